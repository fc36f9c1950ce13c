/- Walks: the reference's signature. -/
import Derived.Test.YtdejhenkdbjakaaDoorV8
import Derived.Test.YtdejhenkdbjakaaDoorWQ
set_option linter.unusedVariables false
set_option linter.unusedSimpArgs false
namespace Go.Proofs.YtdejhenkdbjakaaDoor
open Go Go.RowKit
set_option maxRecDepth 100000 in
set_option maxHeartbeats 4000000 in
theorem lsign_any (gl n : Nat) (seed : Nat → Nat) (hseed : ∀ i, i < 32 → seed i < 256) (tag : Nat → Nat) (ht : ∀ i, i < 32 → tag i < 256) (fd : Nat → Nat) (hfd : ∀ i, i < 32 → fd i < 256) (w : World) (hm : w.heap[gl]? = some (.cells (lgr n) 32 (0, 0))) : Calls Tryd.prog 26 #[.pointer (some ⟨gl, 0, none⟩), .agg (arrF .u8 32 seed), .agg (arrF .u8 32 tag), .agg (arrF .u8 32 fd)] w fun e w' => ∃ r : SlR, e = .returned (.slice (some ⟨r.g, 0, none⟩) 67 r.cap) ∧ True ∧ Own (keysC (sgK seed tag fd) 67) r.rest 67 r.cap 32 ∧ w.heap.size ≤ r.g ∧ w'.heap[r.g]? = some (.cells (sl (keysC (sgK seed tag fd) 67) r.rest) 23 (0, 0)) ∧ Kept [gl] w w' ∧ w'.heap[gl]? = some (.cells (lgr r.n) 32 (0, 0)) := by
  refine C_enter Tryd.func26 rfl 34 Tryd.ntmps26 (Nat.le_of_ble_eq_true rfl) (fun a F => ?_)
  have H := Hp.startX hm
  replace F : Fm 34 [] [(0, pt gl 0), (1, kyV seed), (2, kyV tag), (3, kyV fd)] a := F.weak _ (subL_of kr)
  refine C_seqK (fun K1 hK1 => ?_)
  refine C_region ?_
  refine T_new F H kr (fun ad => pt ad 0) (ce (arrF .u8 32 seed) 23) (fun w => kr) ?_
  clear F H; intro aq2 a v F H
  refine T_new F H kr (fun ad => pt ad 0) (ce (arrF .u8 32 tag) 23) (fun w => kr) ?_
  clear F H; intro aq3 a v F H
  refine T_new F H kr (fun ad => pt ad 0) (ce (arrF .u8 32 fd) 23) (fun w => kr) ?_
  clear F H; intro aq4 a v F H
  refine T_k F H (.slice none 0 0) ?_
  clear F; intro a F
  refine wpList_nil ?_
  refine hK1 _ _ ?_
  clear hK1
  try clear K1
  refine C_seqK (fun K5 hK5 => ?_)
  refine C_region ?_
  refine T_k F H (.slice none 0 0) ?_
  clear F; intro a F
  refine wpList_nil ?_
  refine hK5 _ _ ?_
  clear hK5
  try clear K5
  refine C_seqK (fun K6 hK6 => ?_)
  refine C_region ?_
  refine T_val F H kr (kyV fd) (R_load (own := true) (g := aq4) (all := (arrF .u8 32 fd)) (t := 23) (fr := (0, 0)) 0 kr 23 (.tmp 7) rfl 0 kr (arrF .u8 32 fd) (part_all _) _ Tryd.underlying23 rfl (by rw [arrF_size]; kernel_rfl)) ?_
  clear F; intro a F
  refine T_callX (α := SlR) F H kr 17 #[kyV fd] (fun rX => sc rX.g 0 67 rX.cap) (fun rX => [bk rX.g (sl (ints .i64 (digL fd)) rX.rest) 3, bk aq4 (arrF .u8 32 fd) 23, bk aq3 (arrF .u8 32 tag) 23, bk aq2 (arrF .u8 32 seed) 23, bk gl (lgr n) 32]) (fun rX => Own (ints .i64 (digL fd)) rX.rest 67 rX.cap 1) (fun w => kr) (fun w H => callsX_newV H (digitsR_any fd hfd _)) ?_
  clear F H; intro rq7 a v Qrq7 F H
  refine T_k F H (sc rq7.g 0 67 rq7.cap) ?_
  clear F; intro a F
  refine wpList_nil ?_
  refine hK6 _ _ ?_
  clear hK6
  try clear K6
  refine C_seqK (fun K8 hK8 => ?_)
  refine C_seqK (fun K9 hK9 => ?_)
  refine C_region ?_
  refine T_k F H (ni 0) ?_
  clear F; intro a F
  refine wpList_nil ?_
  replace F : Fm 34 [] [(11, ni 0), (9, .slice none 0 0), (10, sc rq7.g 0 67 rq7.cap), (0, pt gl 0), (5, pt aq2 0), (6, pt aq3 0)] a := F.weak _ (subL_of kr)
  replace H : Hp [gl] w [bk gl (lgr n) 32, bk rq7.g (sl (ints .i64 (digL fd)) rq7.rest) 3, bk aq2 (arrF .u8 32 seed) 23, bk aq3 (arrF .u8 32 tag) 23] v := H.pick [4, 0, 3, 2] kr _ rfl
  refine hK9 _ _ ?_
  clear hK9
  try clear K9
  refine wp_block ?_
  refine C_loop (fun m a v => (∃ c : Nat, m = 67 ∧ Fm 34 [] [(11, ni 0), (9, .slice none 0 0), (10, sc rq7.g 0 67 rq7.cap), (0, pt gl 0), (5, pt aq2 0), (6, pt aq3 0)] a ∧ Hp [gl] w [bk gl (lgr c) 32, bk rq7.g (sl (ints .i64 (digL fd)) rq7.rest) 3, bk aq2 (arrF .u8 32 seed) 23, bk aq3 (arrF .u8 32 tag) 23] v) ∨ (∃ (k : Nat) (r : SlR) (c : Nat), k + m = 67 ∧ 1 ≤ k ∧ Own (keysC (sgK seed tag fd) k) r.rest k r.cap 32 ∧ Fm 34 [] [(11, ni k), (9, sc r.g 0 k r.cap), (10, sc rq7.g 0 67 rq7.cap), (0, pt gl 0), (5, pt aq2 0), (6, pt aq3 0)] a ∧ Hp [gl] w [bk r.g (sl (keysC (sgK seed tag fd) k) r.rest) 23, bk gl (lgr c) 32, bk rq7.g (sl (ints .i64 (digL fd)) rq7.rest) 3, bk aq2 (arrF .u8 32 seed) 23, bk aq3 (arrF .u8 32 tag) 23] v)) (67) (.inl ⟨n, rfl, F, H⟩) ?_
  clear F H
  intro m a v hS
  rcases hS with ⟨c, hk0, F, H⟩ | ⟨k, r, c, hk, hk1, hO, F, H⟩
  · obtain ⟨m, rfl⟩ : ∃ q, m = q + 1 := ⟨m - 1, by omega⟩
    have hdd := digD_lt hfd 0
    refine C_seqK (fun K10 hK10 => ?_)
    refine C_seqK (fun K11 hK11 => ?_)
    refine C_region ?_
    refine T_k F H (ni 0) ?_
    clear F; intro a F
    refine T_val F H kr (.bool true) (fun w _ => R_bin (x := (.tmp 14)) (y := (.const (.int .i64 67))) rfl (k := .i64) (a := ((0 : Nat) : Int)) (b := ((67 : Nat) : Int)) kr kr (i_lt (by omega)) w) ?_
    clear F; intro a F
    refine wpList_nil ?_
    refine hK11 _ _ ?_
    clear hK11
    try clear K11
    refine C_if F true rfl rfl ?_
    refine wp_skip ?_
    refine hK10 _ _ ?_
    clear hK10
    try clear K10
    refine C_seqK (fun K12 hK12 => ?_)
    refine wp_block ?_
    refine E_region F H (fun β => [(18, .slice none 0 0), (19, pt gl 0), (20, kyV tag), (21, ni 0), (22, sc rq7.g 0 67 rq7.cap), (23, ni 0), (24, pt rq7.g (0 + (0) * 1)), (25, ni ((digL fd).getD 0 0)), (26, pt gl 0), (27, kyV seed), (28, ni 0), (29, kyV (begF seed (((0 : Nat) : Int)))), (30, kyV (sgK seed tag fd 0)), (31, sc ((β 13).g) 0 1 1), (32, sc ((β 14).g) 0 1 (β 14).cap), (9, sc ((β 14).g) 0 1 (β 14).cap)]) [18, 19, 20, 21, 22, 23, 24, 25, 26, 27, 28, 29, 30, 31, 32, 9] [⟨some 13, none, 0, [], fun q_ => ce (sl (keyC (sgK seed tag fd 0)) []) 23, gT, []⟩,
      ⟨some 14, none, 0, [14], fun q_ => ce (sl (keyC (sgK seed tag fd 0)) (gh q_ 0).rest) 23, fun q_ => Own (keyC (sgK seed tag fd 0)) (gh q_ 0).rest (1) (gh q_ 0).cap 32, []⟩,
      ⟨none, none, gl, [], fun q_ => ce (lgr c) 32, gT, [⟨11, [11], fun q_ => ce (lgr (gh q_ 0).n) 32, gT⟩, ⟨12, [12], fun q_ => ce (lgr (gh q_ 0).n) 32, gT⟩]⟩] [bk rq7.g (sl (ints .i64 (digL fd)) rq7.rest) 3, bk aq2 (arrF .u8 32 seed) 23, bk aq3 (arrF .u8 32 tag) 23] [0, 1, 2, 3] 2 [(0, [9])] kr kr kr (fun β => rfl) ⟨fun h _ => Bool.noConfusion h, ⟨fun h _ => Bool.noConfusion h, ⟨fun _ _ => trivial, trivial⟩⟩⟩ ⟨?_, ?_, ?_, ?_, ?_, ?_, ?_, ?_, ?_, ?_, ?_, ?_, ?_, ?_, ?_, ?_, trivial⟩ ?_
    · exact E_k 34 (fun β => .slice none 0 0) 18 2
    · exact E_k 34 (fun β => pt gl 0) 19 2
    · exact E_v 34 (fun β => kyV tag) 20 2 [] (fun β w hk hl hq => R_loadH hl (own := true) (g := aq3) (all := (arrF .u8 32 tag)) (t := 23) (fr := (0, 0)) 2 kr 23 (.tmp 6) rfl 0 kr (arrF .u8 32 tag) (part_all _) _ Tryd.underlying23 rfl (by rw [arrF_size]; kernel_rfl))
    · exact E_k 34 (fun β => ni 0) 21 2
    · exact E_k 34 (fun β => sc rq7.g 0 67 rq7.cap) 22 2
    · exact E_k 34 (fun β => ni 0) 23 2
    · exact E_v 34 (fun β => pt rq7.g (0 + (0) * 1)) 24 2 [] (fun β w hk hl hq => R_indexS (k := .i64) (g := rq7.g) (off := 0) (len := 67) (cap := rq7.cap) (x := (.tmp 22)) (y := (.tmp 23)) rfl Tryd.underlying25 kr (0) kr (by omega) (sz := 1) kr w)
    · exact E_v 34 (fun β => ni ((digL fd).getD 0 0)) 25 2 [] (fun β w hk hl hq => R_cellH hl (own := true) (g := rq7.g) (all := (sl (ints .i64 (digL fd)) rq7.rest)) (t := 3) (fr := (0, 0)) 0 kr 3 (.tmp 24) rfl (0 + (0) * 1) kr (ni ((digL fd).getD 0 0)) ((congrArg (fun q => ((sl (ints .i64 (digL fd)) rq7.rest))[q]?) (show (0 + (0) * 1) = 0 by omega)).trans (sl_get (ints_get (digD_get fd (by omega))))) _ Tryd.underlying3 rfl)
    · exact E_k 34 (fun β => pt gl 0) 26 2
    · exact E_v 34 (fun β => kyV seed) 27 2 [] (fun β w hk hl hq => R_loadH hl (own := true) (g := aq2) (all := (arrF .u8 32 seed)) (t := 23) (fr := (0, 0)) 1 kr 23 (.tmp 5) rfl 0 kr (arrF .u8 32 seed) (part_all _) _ Tryd.underlying23 rfl (by rw [arrF_size]; kernel_rfl))
    · exact E_k 34 (fun β => ni 0) 28 2
    · exact E_callP 34 kq (fun β => kyV (begF seed (((0 : Nat) : Int)))) 29 rfl kq 2 (fun β r => offAt2_of kr kr) 56 (fun β => #[pt gl 0, kyV seed, ni 0]) (fun β w => kr) 2 [] 2 0 _ _ rfl rfl kr kr rfl (fun β w hk hl hq hm => lbegin_any gl c seed hseed (((0 : Nat) : Int)) _ hm)
    · exact E_callP 34 kq (fun β => kyV (sgK seed tag fd 0)) 30 rfl kq 2 (fun β r => offAt2_of kr kr) 20 (fun β => #[pt gl 0, kyV tag, ni 0, ni 0, ni ((digL fd).getD 0 0), kyV (begF seed (((0 : Nat) : Int)))]) (fun β w => kr) 2 [] 2 1 _ _ rfl rfl kr kr rfl (fun β w hk hl hq hm => (lalong_any gl (β 11).n tag ht (((0 : Nat) : Int)) (((0 : Nat) : Int)) ((((digL fd).getD 0 0 : Nat) : Int)) (by omega) (by omega) (begF seed (((0 : Nat) : Int))) (fun i _ => begF_lt _ _ i) _ hm).mono (fun _ _ ⟨r, q1, q2⟩ => ⟨r, by rw [q1, show ((((digL fd).getD 0 0 : Nat) : Int) - ((0 : Nat) : Int)).toNat = (digL fd).getD 0 0 from by omega]; rfl, q2⟩))
    · exact E_new 34 kq (fun β => sc ((β 13).g) 0 1 1) 31 rfl kq 2 (fun β r => offAt2_of kr kr) 2 [] 0 _ rfl kr kr rfl (fun β w hk hl hq => ⟨⟨w.heap.size, 0, [], 0⟩, _, (R_buildS (len := 1) rfl Tryd.underlying39 ((sl (keyC (sgK seed tag fd 0)) [])) kr w), trivial, Nat.le_refl _, heap_alloc_new _ _, Kept.alloc _ _⟩)
    · exact E_new 34 kq (fun β => sc ((β 14).g) 0 1 (β 14).cap) 32 rfl kq 2 (fun β r => offAt2_of kr kr) 2 [(0, 0)] 1 _ rfl kr kr rfl (fun β w hk hl hq => let ⟨r, w', h1, h2, h3, h4, h5⟩ := run_appN (size := 32) (bytes := 32) (t := 39) (e := 23) kr kr (x := sc ((β 13).g) 0 1 1) (m := 1) (news := keyC (sgK seed tag fd 0)) (RdS.all (hl.at_ (k := 0) rfl) (Nat.le_refl _)) (by rw [keyC_len]) (by decide) (by simp only [maxLen]; decide) (by decide); ⟨r, w', exec_append (s := (.tmp 18)) (x := (.tmp 31)) rfl kr rfl h1, h2, h4, h3, h5⟩)
    · exact E_k 34 (fun β => sc ((β 14).g) 0 1 (β 14).cap) 9 2
    clear F H; intro β a v Q F H
    replace H : Hp [gl] w [bk ((β 13).g) (sl (keyC (sgK seed tag fd 0)) []) 23, bk ((β 14).g) (sl (keyC (sgK seed tag fd 0)) (β 14).rest) 23, bk gl (lgr (β 12).n) 32, bk rq7.g (sl (ints .i64 (digL fd)) rq7.rest) 3, bk aq2 (arrF .u8 32 seed) 23, bk aq3 (arrF .u8 32 tag) 23] v := H
    replace F : Fm 34 [] [(9, sc ((β 14).g) 0 1 (β 14).cap), (32, sc ((β 14).g) 0 1 (β 14).cap), (31, sc ((β 13).g) 0 1 1), (30, kyV (sgK seed tag fd 0)), (29, kyV (begF seed (((0 : Nat) : Int)))), (28, ni 0), (27, kyV seed), (26, pt gl 0), (25, ni ((digL fd).getD 0 0)), (24, pt rq7.g (0 + (0) * 1)), (23, ni 0), (22, sc rq7.g 0 67 rq7.cap), (21, ni 0), (20, kyV tag), (19, pt gl 0), (18, .slice none 0 0), (15, .bool true), (14, ni 0), (11, ni 0), (10, sc rq7.g 0 67 rq7.cap), (0, pt gl 0), (5, pt aq2 0), (6, pt aq3 0)] a := F.weak _ (subL_of kr)
    have Qh16_1 : Own (keyC (sgK seed tag fd 0)) (β 14).rest (1) (β 14).cap 32 := Q.2.2.1
    clear Q
    generalize β 13 = rq13 at F H Qh16_1
    generalize β 14 = rq14 at F H Qh16_1
    generalize β 11 = rq15 at F H Qh16_1
    generalize β 12 = rq16 at F H Qh16_1
    skip
    refine ?_
    have Qrq14 : Own (keysC (sgK seed tag fd) 1) rq14.rest 1 rq14.cap 32 := Qh16_1
    replace H : Hp [gl] w [bk rq14.g (sl (keyC (sgK seed tag fd 0)) rq14.rest) 23, bk gl (lgr rq16.n) 32, bk rq7.g (sl (ints .i64 (digL fd)) rq7.rest) 3, bk aq2 (arrF .u8 32 seed) 23, bk aq3 (arrF .u8 32 tag) 23] v := H.pick [1, 2, 3, 4, 5] kr _ rfl
    replace H : Hp [gl] w [bk rq14.g (sl (keysC (sgK seed tag fd) 1) rq14.rest) 23, bk gl (lgr rq16.n) 32, bk rq7.g (sl (ints .i64 (digL fd)) rq7.rest) 3, bk aq2 (arrF .u8 32 seed) 23, bk aq3 (arrF .u8 32 tag) 23] v := H
    replace F : Fm 34 [] [(9, sc rq14.g 0 1 rq14.cap), (32, sc rq14.g 0 1 rq14.cap), (31, sc rq13.g 0 1 1), (30, kyV (sgK seed tag fd 0)), (29, kyV (begF seed (((0 : Nat) : Int)))), (28, ni 0), (27, kyV seed), (26, pt gl 0), (25, ni ((digL fd).getD 0 0)), (24, pt rq7.g (0 + (0) * 1)), (23, ni 0), (22, sc rq7.g 0 67 rq7.cap), (21, ni 0), (20, kyV tag), (19, pt gl 0), (18, .slice none 0 0), (15, .bool true), (14, ni 0), (11, ni 0), (10, sc rq7.g 0 67 rq7.cap), (0, pt gl 0), (5, pt aq2 0), (6, pt aq3 0)] a := F
    refine hK12 _ _ ?_
    clear hK12
    try clear K12
    refine C_region ?_
    refine T_k F H (ni 0) ?_
    clear F; intro a F
    refine T_k F H (ni 1) ?_
    clear F; intro a F
    refine T_k F H (ni 1) ?_
    clear F; intro a F
    refine wpList_nil ?_
    replace F : Fm 34 [] [(11, ni 1), (9, sc rq14.g 0 1 rq14.cap), (10, sc rq7.g 0 67 rq7.cap), (0, pt gl 0), (5, pt aq2 0), (6, pt aq3 0)] a := F.weak _ (subL_of kr)
    replace H : Hp [gl] w [bk rq14.g (sl (keysC (sgK seed tag fd) 1) rq14.rest) 23, bk gl (lgr rq16.n) 32, bk rq7.g (sl (ints .i64 (digL fd)) rq7.rest) 3, bk aq2 (arrF .u8 32 seed) 23, bk aq3 (arrF .u8 32 tag) 23] v := H
    exact ⟨m, Nat.lt_succ_self m, .inr ⟨1, rq14, rq16.n, by omega, by omega, Qrq14, F, H⟩⟩
  rcases m with _ | m
  rotate_left
  · skip
    have hdd := digD_lt hfd k
    refine C_seqK (fun K17 hK17 => ?_)
    refine C_seqK (fun K18 hK18 => ?_)
    refine C_region ?_
    refine T_k F H (ni k) ?_
    clear F; intro a F
    refine T_val F H kr (.bool true) (fun w _ => R_bin (x := (.tmp 14)) (y := (.const (.int .i64 67))) rfl (k := .i64) (a := ((k : Nat) : Int)) (b := ((67 : Nat) : Int)) kr kr (i_lt (by omega)) w) ?_
    clear F; intro a F
    refine wpList_nil ?_
    refine hK18 _ _ ?_
    clear hK18
    try clear K18
    refine C_if F true rfl rfl ?_
    refine wp_skip ?_
    refine hK17 _ _ ?_
    clear hK17
    try clear K17
    refine C_seqK (fun K19 hK19 => ?_)
    refine wp_block ?_
    refine E_region F H (fun β => [(18, sc r.g 0 k r.cap), (19, pt gl 0), (20, kyV tag), (21, ni k), (22, sc rq7.g 0 67 rq7.cap), (23, ni k), (24, pt rq7.g (0 + (k) * 1)), (25, ni ((digL fd).getD k 0)), (26, pt gl 0), (27, kyV seed), (28, ni k), (29, kyV (begF seed (((k : Nat) : Int)))), (30, kyV (sgK seed tag fd k)), (31, sc ((β 13).g) 0 1 1), (32, sc ((β 14).g) 0 (k + 1) (β 14).cap), (9, sc ((β 14).g) 0 (k + 1) (β 14).cap)]) [18, 19, 20, 21, 22, 23, 24, 25, 26, 27, 28, 29, 30, 31, 32, 9] [⟨some 13, none, 0, [], fun q_ => ce (sl (keyC (sgK seed tag fd k)) []) 23, gT, []⟩,
      ⟨some 14, none, 0, [14], fun q_ => ce (sl ((keysC (sgK seed tag fd) k) ++ (keyC (sgK seed tag fd k))) (gh q_ 0).rest) 23, fun q_ => Own ((keysC (sgK seed tag fd) k) ++ (keyC (sgK seed tag fd k))) (gh q_ 0).rest ((k + 1)) (gh q_ 0).cap 32, []⟩,
      ⟨none, none, gl, [], fun q_ => ce (lgr c) 32, gT, [⟨11, [11], fun q_ => ce (lgr (gh q_ 0).n) 32, gT⟩, ⟨12, [12], fun q_ => ce (lgr (gh q_ 0).n) 32, gT⟩]⟩,
      ⟨none, some 14, r.g, [], fun q_ => ce (sl (keysC (sgK seed tag fd) k) r.rest) 23, gT, []⟩] [bk rq7.g (sl (ints .i64 (digL fd)) rq7.rest) 3, bk aq2 (arrF .u8 32 seed) 23, bk aq3 (arrF .u8 32 tag) 23] [1, 0, 2, 3, 4] 2 [(0, [9])] kr kr kr (fun β => rfl) ⟨fun h _ => Bool.noConfusion h, ⟨fun h _ => Bool.noConfusion h, ⟨fun _ _ => trivial, ⟨fun _ _ => trivial, trivial⟩⟩⟩⟩ ⟨?_, ?_, ?_, ?_, ?_, ?_, ?_, ?_, ?_, ?_, ?_, ?_, ?_, ?_, ?_, ?_, trivial⟩ ?_
    · exact E_k 34 (fun β => sc r.g 0 k r.cap) 18 2
    · exact E_k 34 (fun β => pt gl 0) 19 2
    · exact E_v 34 (fun β => kyV tag) 20 2 [] (fun β w hk hl hq => R_loadH hl (own := true) (g := aq3) (all := (arrF .u8 32 tag)) (t := 23) (fr := (0, 0)) 2 kr 23 (.tmp 6) rfl 0 kr (arrF .u8 32 tag) (part_all _) _ Tryd.underlying23 rfl (by rw [arrF_size]; kernel_rfl))
    · exact E_k 34 (fun β => ni k) 21 2
    · exact E_k 34 (fun β => sc rq7.g 0 67 rq7.cap) 22 2
    · exact E_k 34 (fun β => ni k) 23 2
    · exact E_v 34 (fun β => pt rq7.g (0 + (k) * 1)) 24 2 [] (fun β w hk hl hq => R_indexS (k := .i64) (g := rq7.g) (off := 0) (len := 67) (cap := rq7.cap) (x := (.tmp 22)) (y := (.tmp 23)) rfl Tryd.underlying25 kr (k) kr (by omega) (sz := 1) kr w)
    · exact E_v 34 (fun β => ni ((digL fd).getD k 0)) 25 2 [] (fun β w hk hl hq => R_cellH hl (own := true) (g := rq7.g) (all := (sl (ints .i64 (digL fd)) rq7.rest)) (t := 3) (fr := (0, 0)) 0 kr 3 (.tmp 24) rfl (0 + (k) * 1) kr (ni ((digL fd).getD k 0)) ((congrArg (fun q => ((sl (ints .i64 (digL fd)) rq7.rest))[q]?) (show (0 + (k) * 1) = k by omega)).trans (sl_get (ints_get (digD_get fd (by omega))))) _ Tryd.underlying3 rfl)
    · exact E_k 34 (fun β => pt gl 0) 26 2
    · exact E_v 34 (fun β => kyV seed) 27 2 [] (fun β w hk hl hq => R_loadH hl (own := true) (g := aq2) (all := (arrF .u8 32 seed)) (t := 23) (fr := (0, 0)) 1 kr 23 (.tmp 5) rfl 0 kr (arrF .u8 32 seed) (part_all _) _ Tryd.underlying23 rfl (by rw [arrF_size]; kernel_rfl))
    · exact E_k 34 (fun β => ni k) 28 2
    · exact E_callP 34 kq (fun β => kyV (begF seed (((k : Nat) : Int)))) 29 rfl kq 2 (fun β r => offAt2_of kr kr) 56 (fun β => #[pt gl 0, kyV seed, ni k]) (fun β w => kr) 2 [] 2 0 _ _ rfl rfl kr kr rfl (fun β w hk hl hq hm => lbegin_any gl c seed hseed (((k : Nat) : Int)) _ hm)
    · exact E_callP 34 kq (fun β => kyV (sgK seed tag fd k)) 30 rfl kq 2 (fun β r => offAt2_of kr kr) 20 (fun β => #[pt gl 0, kyV tag, ni k, ni 0, ni ((digL fd).getD k 0), kyV (begF seed (((k : Nat) : Int)))]) (fun β w => kr) 2 [] 2 1 _ _ rfl rfl kr kr rfl (fun β w hk hl hq hm => (lalong_any gl (β 11).n tag ht (((k : Nat) : Int)) (((0 : Nat) : Int)) ((((digL fd).getD k 0 : Nat) : Int)) (by omega) (by omega) (begF seed (((k : Nat) : Int))) (fun i _ => begF_lt _ _ i) _ hm).mono (fun _ _ ⟨r, q1, q2⟩ => ⟨r, by rw [q1, show ((((digL fd).getD k 0 : Nat) : Int) - ((0 : Nat) : Int)).toNat = (digL fd).getD k 0 from by omega]; rfl, q2⟩))
    · exact E_new 34 kq (fun β => sc ((β 13).g) 0 1 1) 31 rfl kq 2 (fun β r => offAt2_of kr kr) 2 [] 0 _ rfl kr kr rfl (fun β w hk hl hq => ⟨⟨w.heap.size, 0, [], 0⟩, _, (R_buildS (len := 1) rfl Tryd.underlying39 ((sl (keyC (sgK seed tag fd k)) [])) kr w), trivial, Nat.le_refl _, heap_alloc_new _ _, Kept.alloc _ _⟩)
    · exact E_app 34 kq (fun β => sc ((β 14).g) 0 (k + 1) (β 14).cap) 32 rfl kq 2 (fun β r => offAt2_of kr kr) 2 [(0, 0)] 1 2 _ _ rfl rfl kr kr rfl rfl (fun β w hk hl hq hm => let ⟨r, w', h1, h2, h3, h4⟩ := run_app (size := 32) (bytes := 32) (t := 39) (e := 23) kr kr hO hm (x := sc ((β 13).g) 0 1 1) (m := 1) (news := keyC (sgK seed tag fd k)) (RdS.all (hl.at_ (k := 0) rfl) (Nat.le_refl _)) (by rw [keyC_len]) (keyC_one _) (by simp only [maxLen]; omega) (by omega); ⟨r, w', exec_append (s := (.tmp 18)) (x := (.tmp 31)) rfl kr rfl h1, h2, h3, h4⟩)
    · exact E_k 34 (fun β => sc ((β 14).g) 0 (k + 1) (β 14).cap) 9 2
    clear F H; intro β a v Q F H
    replace H : Hp [gl] w [bk ((β 13).g) (sl (keyC (sgK seed tag fd k)) []) 23, bk ((β 14).g) (sl ((keysC (sgK seed tag fd) k) ++ (keyC (sgK seed tag fd k))) (β 14).rest) 23, bk gl (lgr (β 12).n) 32, bk rq7.g (sl (ints .i64 (digL fd)) rq7.rest) 3, bk aq2 (arrF .u8 32 seed) 23, bk aq3 (arrF .u8 32 tag) 23] v := H
    replace F : Fm 34 [] [(9, sc ((β 14).g) 0 (k + 1) (β 14).cap), (32, sc ((β 14).g) 0 (k + 1) (β 14).cap), (31, sc ((β 13).g) 0 1 1), (30, kyV (sgK seed tag fd k)), (29, kyV (begF seed (((k : Nat) : Int)))), (28, ni k), (27, kyV seed), (26, pt gl 0), (25, ni ((digL fd).getD k 0)), (24, pt rq7.g (0 + (k) * 1)), (23, ni k), (22, sc rq7.g 0 67 rq7.cap), (21, ni k), (20, kyV tag), (19, pt gl 0), (18, sc r.g 0 k r.cap), (15, .bool true), (14, ni k), (11, ni k), (10, sc rq7.g 0 67 rq7.cap), (0, pt gl 0), (5, pt aq2 0), (6, pt aq3 0)] a := F.weak _ (subL_of kr)
    have Qh23_1 : Own ((keysC (sgK seed tag fd) k) ++ (keyC (sgK seed tag fd k))) (β 14).rest ((k + 1)) (β 14).cap 32 := Q.2.2.1
    clear Q
    generalize β 13 = rq20 at F H Qh23_1
    generalize β 14 = rq21 at F H Qh23_1
    generalize β 11 = rq22 at F H Qh23_1
    generalize β 12 = rq23 at F H Qh23_1
    skip
    refine ?_
    have Qrq21 : Own (keysC (sgK seed tag fd) (k + 1)) rq21.rest (k + 1) rq21.cap 32 := Qh23_1
    replace H : Hp [gl] w [bk rq21.g (sl ((keysC (sgK seed tag fd) k) ++ (keyC (sgK seed tag fd k))) rq21.rest) 23, bk gl (lgr rq23.n) 32, bk rq7.g (sl (ints .i64 (digL fd)) rq7.rest) 3, bk aq2 (arrF .u8 32 seed) 23, bk aq3 (arrF .u8 32 tag) 23] v := H.pick [1, 2, 3, 4, 5] kr _ rfl
    replace H : Hp [gl] w [bk rq21.g (sl (keysC (sgK seed tag fd) (k + 1)) rq21.rest) 23, bk gl (lgr rq23.n) 32, bk rq7.g (sl (ints .i64 (digL fd)) rq7.rest) 3, bk aq2 (arrF .u8 32 seed) 23, bk aq3 (arrF .u8 32 tag) 23] v := H
    replace F : Fm 34 [] [(9, sc rq21.g 0 (k + 1) rq21.cap), (32, sc rq21.g 0 (k + 1) rq21.cap), (31, sc rq20.g 0 1 1), (30, kyV (sgK seed tag fd k)), (29, kyV (begF seed (((k : Nat) : Int)))), (28, ni k), (27, kyV seed), (26, pt gl 0), (25, ni ((digL fd).getD k 0)), (24, pt rq7.g (0 + (k) * 1)), (23, ni k), (22, sc rq7.g 0 67 rq7.cap), (21, ni k), (20, kyV tag), (19, pt gl 0), (18, sc r.g 0 k r.cap), (15, .bool true), (14, ni k), (11, ni k), (10, sc rq7.g 0 67 rq7.cap), (0, pt gl 0), (5, pt aq2 0), (6, pt aq3 0)] a := F
    refine hK19 _ _ ?_
    clear hK19
    try clear K19
    refine C_region ?_
    refine T_k F H (ni k) ?_
    clear F; intro a F
    refine T_val F H kr (ni (k + 1)) (fun w _ => R_bin (x := (.tmp 16)) (y := (.const (.int .i64 1))) rfl (k := .i64) (a := ((k : Nat) : Int)) (b := ((1 : Nat) : Int)) kr kr (i_addn64 (a := k) (b := 1) (by omega)) w) ?_
    clear F; intro a F
    refine T_k F H (ni (k + 1)) ?_
    clear F; intro a F
    refine wpList_nil ?_
    replace F : Fm 34 [] [(11, ni (k + 1)), (9, sc rq21.g 0 (k + 1) rq21.cap), (10, sc rq7.g 0 67 rq7.cap), (0, pt gl 0), (5, pt aq2 0), (6, pt aq3 0)] a := F.weak _ (subL_of kr)
    replace H : Hp [gl] w [bk rq21.g (sl (keysC (sgK seed tag fd) (k + 1)) rq21.rest) 23, bk gl (lgr rq23.n) 32, bk rq7.g (sl (ints .i64 (digL fd)) rq7.rest) 3, bk aq2 (arrF .u8 32 seed) 23, bk aq3 (arrF .u8 32 tag) 23] v := H
    exact ⟨m, Nat.lt_succ_self m, .inr ⟨k + 1, rq21, rq23.n, by omega, by omega, Qrq21, F, H⟩⟩
  have hkt : k = 67 := by omega
  rw [hkt] at F H hO
  clear hk hk1
  refine C_seqK (fun K24 hK24 => ?_)
  refine C_seqK (fun K25 hK25 => ?_)
  refine C_region ?_
  refine T_k F H (ni 67) ?_
  clear F; intro a F
  refine T_val F H kr (.bool false) (fun w _ => R_bin (x := (.tmp 14)) (y := (.const (.int .i64 67))) rfl (k := .i64) (a := ((67 : Nat) : Int)) (b := ((67 : Nat) : Int)) kr kr (i_nlt (by omega)) w) ?_
  clear F; intro a F
  refine wpList_nil ?_
  refine hK25 _ _ ?_
  clear hK25
  try clear K25
  refine C_if F false rfl rfl ?_
  refine wp_exit ?_
  refine hK8 _ _ ?_
  clear hK8
  try clear K8
  refine C_seqK (fun K26 hK26 => ?_)
  refine C_region ?_
  refine T_k F H (sc r.g 0 67 r.cap) ?_
  clear F; intro a F
  refine T_k F H (sc r.g 0 67 r.cap) ?_
  clear F; intro a F
  refine wpList_nil ?_
  refine hK26 _ _ ?_
  clear hK26
  try clear K26
  refine wp_ret ?_
  exact C_ret F H (rs := [.tmp 8]) rfl (vs := [sc r.g 0 67 r.cap]) (.tmp rfl .nil) (sc r.g 0 67 r.cap) rfl ⟨⟨r.g, r.cap, r.rest, c⟩, rfl, trivial, hO, (H.own ⟨true, r.g, _⟩ (List.mem_cons_self ..) rfl).resolve_right (fun h => H.apart (i := 0) (j := 1) rfl rfl (by decide) (List.mem_singleton.1 h)), H.at_ (k := 0) rfl, H.kept, H.at_ (k := 1) rfl⟩

theorem Hp.start22 {w : World} {a b : Nat} {oa ob : Obj} (ha : w.heap[a]? = some oa) (hb : w.heap[b]? = some ob) (hne : a ≠ b) : Hp [] w [⟨false, a, oa⟩, ⟨false, b, ob⟩] w :=
  ⟨Kept.refl _ _, (fun p hp => by
    simp only [List.mem_cons, List.not_mem_nil, or_false] at hp
    rcases hp with rfl | rfl
    · exact ha
    · exact hb), (fun p hp ho => by
    simp only [List.mem_cons, List.not_mem_nil, or_false] at hp
    rcases hp with rfl | rfl
    · cases ho
    · cases ho), by
    refine List.pairwise_cons.2 ⟨fun q hq => ?_, List.pairwise_singleton _ _⟩
    simp only [List.mem_singleton] at hq
    subst hq
    exact hne⟩

set_option maxRecDepth 100000 in
set_option maxHeartbeats 4000000 in
theorem keysR_any (K : Nat → Nat → Nat) (ka ca kb cb : Nat) (ra rb : List Value) (hne : ka ≠ kb) (w : World) (hka : w.heap[ka]? = some (.cells (sl (keysC K 67) ra) 23 (0, 0))) (hkb : w.heap[kb]? = some (.cells (sl (keysC K 67) rb) 23 (0, 0))) : Calls Tryd.prog 25 #[.slice (some ⟨ka, 0, none⟩) 67 ca, .slice (some ⟨kb, 0, none⟩) 67 cb] w fun e w' => e = .returned (.bool true) ∧ Kept [] w w' := by
  refine C_enter Tryd.func25 rfl 26 Tryd.ntmps25 (Nat.le_of_ble_eq_true rfl) (fun a F => ?_)
  have H := Hp.start22 hka hkb hne
  replace F : Fm 26 [] [(0, sc ka 0 67 ca), (1, sc kb 0 67 cb)] a := F.weak _ (subL_of kr)
  refine C_seqK (fun K1 hK1 => ?_)
  refine C_region ?_
  refine T_k F H (.bool false) ?_
  clear F; intro a F
  refine wpList_nil ?_
  refine hK1 _ _ ?_
  clear hK1
  try clear K1
  refine C_seqK (fun K2 hK2 => ?_)
  refine C_seqK (fun K3 hK3 => ?_)
  refine C_region ?_
  refine T_k F H (sc ka 0 67 ca) ?_
  clear F; intro a F
  refine T_k F H (ni 67) ?_
  clear F; intro a F
  refine T_k F H (sc kb 0 67 cb) ?_
  clear F; intro a F
  refine T_k F H (ni 67) ?_
  clear F; intro a F
  refine T_k F H (.bool false) ?_
  clear F; intro a F
  refine wpList_nil ?_
  refine hK3 _ _ ?_
  clear hK3
  try clear K3
  refine C_if F false rfl rfl ?_
  refine wp_skip ?_
  refine hK2 _ _ ?_
  clear hK2
  try clear K2
  refine C_seqK (fun K4 hK4 => ?_)
  refine C_seqK (fun K5 hK5 => ?_)
  refine C_region ?_
  refine T_k F H (ni 0) ?_
  clear F; intro a F
  refine wpList_nil ?_
  replace F : Fm 26 [] [(5, ni 0), (0, sc ka 0 67 ca), (1, sc kb 0 67 cb)] a := F.weak _ (subL_of kr)
  refine hK5 _ _ ?_
  clear hK5
  try clear K5
  refine wp_block ?_
  refine C_loop (fun m a v => ∃ k, k + m = 67 ∧ Fm 26 [] [(5, ni k), (0, sc ka 0 67 ca), (1, sc kb 0 67 cb)] a ∧ Hp [] w [br ka (sl (keysC K 67) ra) 23, br kb (sl (keysC K 67) rb) 23] v) (67) ⟨0, Nat.zero_add _, F, H⟩ ?_
  clear F H
  intro m a v ⟨k, hk, F, H⟩
  rcases m with _ | m
  rotate_left
  · skip
    refine C_seqK (fun K6 hK6 => ?_)
    refine C_seqK (fun K7 hK7 => ?_)
    refine C_region ?_
    refine T_k F H (ni k) ?_
    clear F; intro a F
    refine T_k F H (sc ka 0 67 ca) ?_
    clear F; intro a F
    refine T_k F H (ni 67) ?_
    clear F; intro a F
    refine T_val F H kr (.bool true) (fun w _ => R_bin (x := (.tmp 11)) (y := (.tmp 13)) rfl (k := .i64) (a := ((k : Nat) : Int)) (b := ((67 : Nat) : Int)) kr kr (i_lt (by omega)) w) ?_
    clear F; intro a F
    refine wpList_nil ?_
    refine hK7 _ _ ?_
    clear hK7
    try clear K7
    refine C_if F true rfl rfl ?_
    refine wp_skip ?_
    refine hK6 _ _ ?_
    clear hK6
    try clear K6
    refine C_seqK (fun K8 hK8 => ?_)
    refine wp_block ?_
    refine C_seqK (fun K9 hK9 => ?_)
    refine E_region F H (fun β => [(17, sc ka 0 67 ca), (18, ni k), (19, pt ka (0 + (k) * 32)), (20, kyV (K k)), (21, sc kb 0 67 cb), (22, ni k), (23, pt kb (0 + (k) * 32)), (24, kyV (K k)), (25, .bool false)]) [17, 18, 19, 20, 21, 22, 23, 24, 25] [] [br ka (sl (keysC K 67) ra) 23, br kb (sl (keysC K 67) rb) 23] [0, 1] 2 [] kr kr kr (fun β => rfl) trivial ⟨?_, ?_, ?_, ?_, ?_, ?_, ?_, ?_, ?_, trivial⟩ ?_
    · exact E_k 26 (fun β => sc ka 0 67 ca) 17 2
    · exact E_k 26 (fun β => ni k) 18 2
    · exact E_v 26 (fun β => pt ka (0 + (k) * 32)) 19 2 [] (fun β w hk hl hq => R_indexS (k := .i64) (g := ka) (off := 0) (len := 67) (cap := ca) (x := (.tmp 17)) (y := (.tmp 18)) rfl Tryd.underlying39 kr (k) kr (by omega) (sz := 32) kr w)
    · exact E_v 26 (fun β => kyV (K k)) 20 2 [] (fun β w hk hl hq => R_loadH hl (own := false) (g := ka) (all := (sl (keysC K 67) ra)) (t := 23) (fr := (0, 0)) 0 kr 23 (.tmp 19) rfl (0 + (k) * 32) kr (arrF .u8 32 (K k)) (keys_part K ra (by omega)) _ Tryd.underlying23 rfl (by rw [arrF_size]; kernel_rfl))
    · exact E_k 26 (fun β => sc kb 0 67 cb) 21 2
    · exact E_k 26 (fun β => ni k) 22 2
    · exact E_v 26 (fun β => pt kb (0 + (k) * 32)) 23 2 [] (fun β w hk hl hq => R_indexS (k := .i64) (g := kb) (off := 0) (len := 67) (cap := cb) (x := (.tmp 21)) (y := (.tmp 22)) rfl Tryd.underlying39 kr (k) kr (by omega) (sz := 32) kr w)
    · exact E_v 26 (fun β => kyV (K k)) 24 2 [] (fun β w hk hl hq => R_loadH hl (own := false) (g := kb) (all := (sl (keysC K 67) rb)) (t := 23) (fr := (0, 0)) 1 kr 23 (.tmp 23) rfl (0 + (k) * 32) kr (arrF .u8 32 (K k)) (keys_part K rb (by omega)) _ Tryd.underlying23 rfl (by rw [arrF_size]; kernel_rfl))
    · exact E_v 26 (fun β => .bool false) 25 2 [] (fun β w hk hl hq => R_neK (x := (.tmp 20)) (y := (.tmp 24)) rfl (K k) (K k) kr kr true ⟨fun _ _ _ => rfl, fun _ => rfl⟩ w)
    clear F H; intro β a v Q F H
    replace H : Hp [] w [br ka (sl (keysC K 67) ra) 23, br kb (sl (keysC K 67) rb) 23] v := H
    replace F : Fm 26 [] [(25, .bool false), (24, kyV (K k)), (23, pt kb (0 + (k) * 32)), (22, ni k), (21, sc kb 0 67 cb), (20, kyV (K k)), (19, pt ka (0 + (k) * 32)), (18, ni k), (17, sc ka 0 67 ca), (14, .bool true), (13, ni 67), (12, sc ka 0 67 ca), (11, ni k), (5, ni k), (0, sc ka 0 67 ca), (1, sc kb 0 67 cb)] a := F.weak _ (subL_of kr)
    clear Q
    refine ?_
    refine hK9 _ _ ?_
    clear hK9
    try clear K9
    refine C_if F false rfl rfl ?_
    refine wp_skip ?_
    refine hK8 _ _ ?_
    clear hK8
    try clear K8
    refine C_region ?_
    refine T_k F H (ni k) ?_
    clear F; intro a F
    refine T_val F H kr (ni (k + 1)) (fun w _ => R_bin (x := (.tmp 15)) (y := (.const (.int .i64 1))) rfl (k := .i64) (a := ((k : Nat) : Int)) (b := ((1 : Nat) : Int)) kr kr (i_addn64 (a := k) (b := 1) (by omega)) w) ?_
    clear F; intro a F
    refine T_k F H (ni (k + 1)) ?_
    clear F; intro a F
    refine wpList_nil ?_
    replace F : Fm 26 [] [(5, ni (k + 1)), (0, sc ka 0 67 ca), (1, sc kb 0 67 cb)] a := F.weak _ (subL_of kr)
    replace H : Hp [] w [br ka (sl (keysC K 67) ra) 23, br kb (sl (keysC K 67) rb) 23] v := H
    exact ⟨m, Nat.lt_succ_self m, k + 1, by omega, F, H⟩
  have hkt : k = 67 := by omega
  try rw [hkt] at F
  try rw [hkt] at H
  clear hk
  refine C_seqK (fun K10 hK10 => ?_)
  refine C_seqK (fun K11 hK11 => ?_)
  refine C_region ?_
  refine T_k F H (ni 67) ?_
  clear F; intro a F
  refine T_k F H (sc ka 0 67 ca) ?_
  clear F; intro a F
  refine T_k F H (ni 67) ?_
  clear F; intro a F
  refine T_val F H kr (.bool false) (fun w _ => R_bin (x := (.tmp 11)) (y := (.tmp 13)) rfl (k := .i64) (a := ((67 : Nat) : Int)) (b := ((67 : Nat) : Int)) kr kr (i_nlt (by omega)) w) ?_
  clear F; intro a F
  refine wpList_nil ?_
  refine hK11 _ _ ?_
  clear hK11
  try clear K11
  refine C_if F false rfl rfl ?_
  refine wp_exit ?_
  refine hK4 _ _ ?_
  clear hK4
  try clear K4
  refine C_seqK (fun K12 hK12 => ?_)
  refine C_region ?_
  refine T_k F H (.bool true) ?_
  clear F; intro a F
  refine wpList_nil ?_
  refine hK12 _ _ ?_
  clear hK12
  try clear K12
  refine wp_ret ?_
  exact C_ret F H (rs := [.tmp 4]) rfl (vs := [.bool true]) (.tmp rfl .nil) (.bool true) rfl ⟨rfl, H.kept⟩
end Go.Proofs.YtdejhenkdbjakaaDoor
