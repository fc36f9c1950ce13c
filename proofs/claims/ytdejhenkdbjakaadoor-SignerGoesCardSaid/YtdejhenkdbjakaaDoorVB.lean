/- Walks: the public key of a signature, by the reference. -/
import Derived.Test.YtdejhenkdbjakaaDoorV9
set_option linter.unusedVariables false
set_option linter.unusedSimpArgs false
namespace Go.Proofs.YtdejhenkdbjakaaDoor
open Go Go.RowKit
theorem i_neqn {k : IntKind} {a b : Nat} (h : a ≠ b) : intRes .neq k a b = some (.bool true) := by
  have : (a : Int) ≠ (b : Int) := by omega
  simp [intRes, this]

set_option maxRecDepth 100000 in
set_option maxHeartbeats 4000000 in
theorem recover_no (mv : Value) (tag fd : Nat → Nat) (ad : Option Addr) (len cp : Nat) (hne : len ≠ 67) (w : World) : Calls Tryd.prog 27 #[mv, .agg (arrF .u8 32 tag), .agg (arrF .u8 32 fd), .slice ad len cp] w fun e w' => e = .returned (.tuple #[.agg (arrF .u8 32 zF), .int .i64 40]) ∧ Kept [] w w' := by
  refine C_enter Tryd.func27 rfl 42 Tryd.ntmps27 (Nat.le_of_ble_eq_true rfl) (fun a F => ?_)
  have H := Hp.start [] w
  replace F : Fm 42 [] [(0, mv), (1, kyV tag), (2, kyV fd), (3, .slice ad len cp)] a := F.weak _ (subL_of kr)
  refine C_seqK (fun K1 hK1 => ?_)
  refine C_region ?_
  refine T_new F H kr (fun ad => pt ad 0) (ce (arrF .u8 32 tag) 23) (fun w => kr) ?_
  clear F H; intro aq2 a v F H
  refine T_new F H kr (fun ad => pt ad 0) (ce (arrF .u8 32 fd) 23) (fun w => kr) ?_
  clear F H; intro aq3 a v F H
  refine T_new F H kr (fun ad => pt ad 0) (ce z8 23) (fun w => kr) ?_
  clear F H; intro aq4 a v F H
  refine T_k F H (ni 0) ?_
  clear F; intro a F
  refine wpList_nil ?_
  refine hK1 _ _ ?_
  clear hK1
  try clear K1
  refine C_seqK (fun K5 hK5 => ?_)
  refine C_seqK (fun K6 hK6 => ?_)
  refine C_region ?_
  refine T_k F H (.slice ad len cp) ?_
  clear F; intro a F
  refine T_k F H (ni len) ?_
  clear F; intro a F
  refine T_val F H kr (.bool true) (fun w _ => R_bin (x := (.tmp 14)) (y := (.const (.int .i64 67))) rfl (k := .i64) (a := ((len : Nat) : Int)) (b := ((67 : Nat) : Int)) kr kr (i_neqn (by omega)) w) ?_
  clear F; intro a F
  refine wpList_nil ?_
  refine hK6 _ _ ?_
  clear hK6
  try clear K6
  refine C_if F true rfl rfl ?_
  refine C_seqK (fun K7 hK7 => ?_)
  refine C_region ?_
  refine T_k F H (kyV zF) ?_
  clear F; intro a F
  refine T_set F H kr rfl 0 rfl (arrF .u8 32 zF) (S_row 0 rfl 23 (.tmp 8) (.tmp 16) rfl kr (arrF .u8 32 zF) kr (by rw [arrF_size]; kernel_rfl) (by rw [arrF_size]; kernel_rfl) (arrF_one _ _ _)) [bk aq4 (arrF .u8 32 zF) 23, bk aq3 (arrF .u8 32 fd) 23, bk aq2 (arrF .u8 32 tag) 23] rfl ?_
  clear F H; intro a v F H
  refine T_k F H (ni 40) ?_
  clear F; intro a F
  refine wpList_nil ?_
  refine hK7 _ _ ?_
  clear hK7
  try clear K7
  refine wp_ret ?_
  repeat (first | with_reducible refine then_ret ?_ | with_reducible refine inB_ret ?_)
  exact C_ret F H (rs := [.cell 8 23, .tmp 9]) rfl (vs := [kyV zF, ni 40]) (.row 0 rfl rfl _ Tryd.underlying23 rfl kr (.tmp rfl .nil)) (.tuple #[kyV zF, ni 40]) rfl ⟨rfl, H.kept⟩

set_option maxRecDepth 100000 in
set_option maxHeartbeats 4000000 in
theorem lrecover_no (mv : Value) (tag fd : Nat → Nat) (ad : Option Addr) (len cp : Nat) (hne : len ≠ 67) (w : World) : Calls Tryd.prog 28 #[mv, .agg (arrF .u8 32 tag), .agg (arrF .u8 32 fd), .slice ad len cp] w fun e w' => e = .returned (.tuple #[.agg (arrF .u8 32 zF), .int .i64 40]) ∧ Kept [] w w' := by
  refine C_enter Tryd.func28 rfl 43 Tryd.ntmps28 (Nat.le_of_ble_eq_true rfl) (fun a F => ?_)
  have H := Hp.start [] w
  replace F : Fm 43 [] [(0, mv), (1, kyV tag), (2, kyV fd), (3, .slice ad len cp)] a := F.weak _ (subL_of kr)
  refine C_seqK (fun K1 hK1 => ?_)
  refine C_region ?_
  refine T_new F H kr (fun ad => pt ad 0) (ce (arrF .u8 32 tag) 23) (fun w => kr) ?_
  clear F H; intro aq2 a v F H
  refine T_new F H kr (fun ad => pt ad 0) (ce (arrF .u8 32 fd) 23) (fun w => kr) ?_
  clear F H; intro aq3 a v F H
  refine T_new F H kr (fun ad => pt ad 0) (ce z8 23) (fun w => kr) ?_
  clear F H; intro aq4 a v F H
  refine T_k F H (ni 0) ?_
  clear F; intro a F
  refine wpList_nil ?_
  refine hK1 _ _ ?_
  clear hK1
  try clear K1
  refine C_seqK (fun K5 hK5 => ?_)
  refine C_seqK (fun K6 hK6 => ?_)
  refine C_region ?_
  refine T_k F H (.slice ad len cp) ?_
  clear F; intro a F
  refine T_k F H (ni len) ?_
  clear F; intro a F
  refine T_val F H kr (.bool true) (fun w _ => R_bin (x := (.tmp 14)) (y := (.const (.int .i64 67))) rfl (k := .i64) (a := ((len : Nat) : Int)) (b := ((67 : Nat) : Int)) kr kr (i_neqn (by omega)) w) ?_
  clear F; intro a F
  refine wpList_nil ?_
  refine hK6 _ _ ?_
  clear hK6
  try clear K6
  refine C_if F true rfl rfl ?_
  refine C_seqK (fun K7 hK7 => ?_)
  refine C_region ?_
  refine T_k F H (kyV zF) ?_
  clear F; intro a F
  refine T_set F H kr rfl 0 rfl (arrF .u8 32 zF) (S_row 0 rfl 23 (.tmp 8) (.tmp 16) rfl kr (arrF .u8 32 zF) kr (by rw [arrF_size]; kernel_rfl) (by rw [arrF_size]; kernel_rfl) (arrF_one _ _ _)) [bk aq4 (arrF .u8 32 zF) 23, bk aq3 (arrF .u8 32 fd) 23, bk aq2 (arrF .u8 32 tag) 23] rfl ?_
  clear F H; intro a v F H
  refine T_k F H (ni 40) ?_
  clear F; intro a F
  refine wpList_nil ?_
  refine hK7 _ _ ?_
  clear hK7
  try clear K7
  refine wp_ret ?_
  repeat (first | with_reducible refine then_ret ?_ | with_reducible refine inB_ret ?_)
  exact C_ret F H (rs := [.cell 8 23, .tmp 9]) rfl (vs := [kyV zF, ni 40]) (.row 0 rfl rfl _ Tryd.underlying23 rfl kr (.tmp rfl .nil)) (.tuple #[kyV zF, ni 40]) rfl ⟨rfl, H.kept⟩

set_option maxRecDepth 100000 in
set_option maxHeartbeats 4000000 in
theorem lrecover_any (gl n : Nat) (tag : Nat → Nat) (ht : ∀ i, i < 32 → tag i < 256) (fd : Nat → Nat) (hfd : ∀ i, i < 32 → fd i < 256) (K : Nat → Nat → Nat) (hK : ∀ k i, i < 32 → K k i < 256) (lb off cp : Nat) (arr : Array Value) (tyl : TypeId) (fr : Nat × Nat) (harr : ∀ k, k < 67 → ∀ j v, (arrF .u8 32 (K k))[j]? = some v → arr[(off + k * 32) + j]? = some v) (w : World) (hm : w.heap[gl]? = some (.cells (lgr n) 32 (0, 0))) (hl : w.heap[lb]? = some (.cells arr tyl fr)) (hne : gl ≠ lb) : Calls Tryd.prog 28 #[.pointer (some ⟨gl, 0, none⟩), .agg (arrF .u8 32 tag), .agg (arrF .u8 32 fd), .slice (some ⟨lb, off, none⟩) 67 cp] w fun e w' => ∃ r : SlR, e = .returned (.tuple #[.agg (arrF .u8 32 (shaK (endK tag (rcK tag fd K) 67))), .int .i64 0]) ∧ True ∧ Kept [gl] w w' ∧ w'.heap[gl]? = some (.cells (lgr r.n) 32 (0, 0)) := by
  obtain ⟨pk, hpk⟩ : ∃ pk, pk = shaK (endK tag (rcK tag fd K) 67) := ⟨_, rfl⟩
  rw [← hpk]
  have hpl := rcK_lt (tag := tag) (fd := fd) hK
  have hr0 : ∀ k, rcK tag fd K k = alF tag k ((digL fd).getD k 0 : Nat) (K k) (15 - (digL fd).getD k 0) := fun _ => rfl
  refine C_enter Tryd.func28 rfl 43 Tryd.ntmps28 (Nat.le_of_ble_eq_true rfl) (fun a F => ?_)
  have H := Hp.startM hm hl hne
  replace F : Fm 43 [] [(0, pt gl 0), (1, kyV tag), (2, kyV fd), (3, sc lb off 67 cp)] a := F.weak _ (subL_of kr)
  refine C_seqK (fun K1 hK1 => ?_)
  refine C_region ?_
  refine T_new F H kr (fun ad => pt ad 0) (ce (arrF .u8 32 tag) 23) (fun w => kr) ?_
  clear F H; intro aq2 a v F H
  refine T_new F H kr (fun ad => pt ad 0) (ce (arrF .u8 32 fd) 23) (fun w => kr) ?_
  clear F H; intro aq3 a v F H
  refine T_new F H kr (fun ad => pt ad 0) (ce z8 23) (fun w => kr) ?_
  clear F H; intro aq4 a v F H
  refine T_k F H (ni 0) ?_
  clear F; intro a F
  refine wpList_nil ?_
  refine hK1 _ _ ?_
  clear hK1
  try clear K1
  refine C_seqK (fun K5 hK5 => ?_)
  refine C_seqK (fun K6 hK6 => ?_)
  refine C_region ?_
  refine T_k F H (sc lb off 67 cp) ?_
  clear F; intro a F
  refine T_k F H (ni 67) ?_
  clear F; intro a F
  refine T_k F H (.bool false) ?_
  clear F; intro a F
  refine wpList_nil ?_
  refine hK6 _ _ ?_
  clear hK6
  try clear K6
  refine C_if F false rfl rfl ?_
  refine wp_skip ?_
  refine hK5 _ _ ?_
  clear hK5
  try clear K5
  refine C_seqK (fun K7 hK7 => ?_)
  refine C_region ?_
  refine T_val F H kr (kyV fd) (R_load (own := true) (g := aq3) (all := (arrF .u8 32 fd)) (t := 23) (fr := (0, 0)) 1 kr 23 (.tmp 6) rfl 0 kr (arrF .u8 32 fd) (part_all _) _ Tryd.underlying23 rfl (by rw [arrF_size]; kernel_rfl)) ?_
  clear F; intro a F
  refine T_callX (α := SlR) F H kr 17 #[kyV fd] (fun rX => sc rX.g 0 67 rX.cap) (fun rX => [bk rX.g (sl (ints .i64 (digL fd)) rX.rest) 3, bk aq4 z8 23, bk aq3 (arrF .u8 32 fd) 23, bk aq2 (arrF .u8 32 tag) 23, bk gl (lgr n) 32, ⟨false, lb, .cells arr tyl fr⟩]) (fun rX => Own (ints .i64 (digL fd)) rX.rest 67 rX.cap 1) (fun w => kr) (fun w H => callsX_newV H (digitsR_any fd hfd _)) ?_
  clear F H; intro rq8 a v Qrq8 F H
  refine T_k F H (sc rq8.g 0 67 rq8.cap) ?_
  clear F; intro a F
  refine wpList_nil ?_
  refine hK7 _ _ ?_
  clear hK7
  try clear K7
  refine C_seqK (fun K9 hK9 => ?_)
  refine C_region ?_
  refine T_val F H kr (kyV tag) (R_load (own := true) (g := aq2) (all := (arrF .u8 32 tag)) (t := 23) (fr := (0, 0)) 3 kr 23 (.tmp 5) rfl 0 kr (arrF .u8 32 tag) (part_all _) _ Tryd.underlying23 rfl (by rw [arrF_size]; kernel_rfl)) ?_
  clear F; intro a F
  refine T_callX (α := SlR) F H kr 47 #[kyV tag] (fun rX => sc rX.g 0 32 rX.cap) (fun rX => [bk rX.g (sl (oct (kl tag)) rX.rest) 5, bk rq8.g (sl (ints .i64 (digL fd)) rq8.rest) 3, bk aq4 z8 23, bk aq3 (arrF .u8 32 fd) 23, bk aq2 (arrF .u8 32 tag) 23, bk gl (lgr n) 32, ⟨false, lb, .cells arr tyl fr⟩]) (fun rX => Own (oct (kl tag)) rX.rest (32) rX.cap 1) (fun w => kr) (fun w H => callsX_newV H (bytesR_any tag _)) ?_
  clear F H; intro rq10 a v Qrq10 F H
  refine T_k F H (sc rq10.g 0 32 rq10.cap) ?_
  clear F; intro a F
  refine wpList_nil ?_
  refine hK9 _ _ ?_
  clear hK9
  try clear K9
  refine C_seqK (fun K11 hK11 => ?_)
  refine C_seqK (fun K12 hK12 => ?_)
  refine C_region ?_
  refine T_k F H (ni 0) ?_
  clear F; intro a F
  refine wpList_nil ?_
  replace F : Fm 43 [] [(12, ni 0), (11, sc rq10.g 0 32 rq10.cap), (10, sc rq8.g 0 67 rq8.cap), (0, pt gl 0), (3, sc lb off 67 cp), (5, pt aq2 0), (6, pt aq3 0), (8, pt aq4 0)] a := F.weak _ (subL_of kr)
  replace H : Hp [gl] w [bk rq10.g (sl (oct (kl tag)) rq10.rest) 5, bk gl (lgr n) 32, bk rq8.g (sl (ints .i64 (digL fd)) rq8.rest) 3, bk aq2 (arrF .u8 32 tag) 23, bk aq3 (arrF .u8 32 fd) 23, bk aq4 z8 23, ⟨false, lb, .cells arr tyl fr⟩] v := H.pick [0, 5, 1, 4, 3, 2, 6] kr _ rfl
  refine hK12 _ _ ?_
  clear hK12
  try clear K12
  refine wp_block ?_
  refine C_loop (fun m a v => ∃ (k : Nat) (r : SlR) (c : Nat), k + m = 67 ∧ Own (oct (endK tag (rcK tag fd K) k)) r.rest (32 + 32 * k) r.cap 1 ∧ Fm 43 [] [(12, ni k), (11, sc r.g 0 (32 + 32 * k) r.cap), (10, sc rq8.g 0 67 rq8.cap), (0, pt gl 0), (3, sc lb off 67 cp), (5, pt aq2 0), (6, pt aq3 0), (8, pt aq4 0)] a ∧ Hp [gl] w [bk r.g (sl (oct (endK tag (rcK tag fd K) k)) r.rest) 5, bk gl (lgr c) 32, bk rq8.g (sl (ints .i64 (digL fd)) rq8.rest) 3, bk aq2 (arrF .u8 32 tag) 23, bk aq3 (arrF .u8 32 fd) 23, bk aq4 z8 23, ⟨false, lb, .cells arr tyl fr⟩] v) (67) ⟨0, rq10, n, Nat.zero_add _, Qrq10, F, H⟩ ?_
  clear F H
  intro m a v ⟨k, r, c, hk, hO, F, H⟩
  rcases m with _ | m
  rotate_left
  · skip
    have hdd := digD_lt hfd k
    refine C_seqK (fun K13 hK13 => ?_)
    refine C_seqK (fun K14 hK14 => ?_)
    refine C_region ?_
    refine T_k F H (ni k) ?_
    clear F; intro a F
    refine T_val F H kr (.bool true) (fun w _ => R_bin (x := (.tmp 21)) (y := (.const (.int .i64 67))) rfl (k := .i64) (a := ((k : Nat) : Int)) (b := ((67 : Nat) : Int)) kr kr (i_lt (by omega)) w) ?_
    clear F; intro a F
    refine wpList_nil ?_
    refine hK14 _ _ ?_
    clear hK14
    try clear K14
    refine C_if F true rfl rfl ?_
    refine wp_skip ?_
    refine hK13 _ _ ?_
    clear hK13
    try clear K13
    refine C_seqK (fun K15 hK15 => ?_)
    refine wp_block ?_
    refine E_region F H (fun β => [(25, sc r.g 0 (32 + 32 * k) r.cap), (26, pt gl 0), (27, kyV tag), (28, ni k), (29, sc rq8.g 0 67 rq8.cap), (30, ni k), (31, pt rq8.g (0 + (k) * 1)), (32, ni ((digL fd).getD k 0)), (33, sc lb off 67 cp), (34, ni k), (35, pt lb (off + (k) * 32)), (36, kyV (K k)), (37, kyV (rcK tag fd K k)), (38, sc ((β 13).g) 0 32 (β 13).cap), (39, sc ((β 14).g) 0 ((32 + 32 * k) + 32) (β 14).cap), (11, sc ((β 14).g) 0 ((32 + 32 * k) + 32) (β 14).cap)]) [25, 26, 27, 28, 29, 30, 31, 32, 33, 34, 35, 36, 37, 38, 39, 11] [⟨some 13, none, 0, [13], fun q_ => ce (sl (oct (kl (rcK tag fd K k))) (gh q_ 0).rest) 5, fun q_ => Own (oct (kl (rcK tag fd K k))) (gh q_ 0).rest (32) (gh q_ 0).cap 1, []⟩,
      ⟨some 14, none, 0, [14], fun q_ => ce (sl ((oct (endK tag (rcK tag fd K) k)) ++ (oct (kl (rcK tag fd K k)))) (gh q_ 0).rest) 5, fun q_ => Own ((oct (endK tag (rcK tag fd K) k)) ++ (oct (kl (rcK tag fd K k)))) (gh q_ 0).rest (((32 + 32 * k) + 32)) (gh q_ 0).cap 1, []⟩,
      ⟨none, none, gl, [], fun q_ => ce (lgr c) 32, gT, [⟨12, [12], fun q_ => ce (lgr (gh q_ 0).n) 32, gT⟩]⟩,
      ⟨none, some 14, r.g, [], fun q_ => ce (sl (oct (endK tag (rcK tag fd K) k)) r.rest) 5, gT, []⟩] [bk rq8.g (sl (ints .i64 (digL fd)) rq8.rest) 3, bk aq2 (arrF .u8 32 tag) 23, bk aq3 (arrF .u8 32 fd) 23, bk aq4 z8 23, ⟨false, lb, .cells arr tyl fr⟩] [1, 0, 2, 3, 4, 5, 6] 2 [(0, [11])] kr kr kr (fun β => rfl) ⟨fun h _ => Bool.noConfusion h, ⟨fun h _ => Bool.noConfusion h, ⟨fun _ _ => trivial, ⟨fun _ _ => trivial, trivial⟩⟩⟩⟩ ⟨?_, ?_, ?_, ?_, ?_, ?_, ?_, ?_, ?_, ?_, ?_, ?_, ?_, ?_, ?_, ?_, trivial⟩ ?_
    · exact E_k 43 (fun β => sc r.g 0 (32 + 32 * k) r.cap) 25 2
    · exact E_k 43 (fun β => pt gl 0) 26 2
    · exact E_v 43 (fun β => kyV tag) 27 2 [] (fun β w hk hl hq => R_loadH hl (own := true) (g := aq2) (all := (arrF .u8 32 tag)) (t := 23) (fr := (0, 0)) 1 kr 23 (.tmp 5) rfl 0 kr (arrF .u8 32 tag) (part_all _) _ Tryd.underlying23 rfl (by rw [arrF_size]; kernel_rfl))
    · exact E_k 43 (fun β => ni k) 28 2
    · exact E_k 43 (fun β => sc rq8.g 0 67 rq8.cap) 29 2
    · exact E_k 43 (fun β => ni k) 30 2
    · exact E_v 43 (fun β => pt rq8.g (0 + (k) * 1)) 31 2 [] (fun β w hk hl hq => R_indexS (k := .i64) (g := rq8.g) (off := 0) (len := 67) (cap := rq8.cap) (x := (.tmp 29)) (y := (.tmp 30)) rfl Tryd.underlying25 kr (k) kr (by omega) (sz := 1) kr w)
    · exact E_v 43 (fun β => ni ((digL fd).getD k 0)) 32 2 [] (fun β w hk hl hq => R_cellH hl (own := true) (g := rq8.g) (all := (sl (ints .i64 (digL fd)) rq8.rest)) (t := 3) (fr := (0, 0)) 0 kr 3 (.tmp 31) rfl (0 + (k) * 1) kr (ni ((digL fd).getD k 0)) ((congrArg (fun q => ((sl (ints .i64 (digL fd)) rq8.rest))[q]?) (show (0 + (k) * 1) = k by omega)).trans (sl_get (ints_get (digD_get fd (by omega))))) _ Tryd.underlying3 rfl)
    · exact E_k 43 (fun β => sc lb off 67 cp) 33 2
    · exact E_k 43 (fun β => ni k) 34 2
    · exact E_v 43 (fun β => pt lb (off + (k) * 32)) 35 2 [] (fun β w hk hl hq => R_indexS (k := .i64) (g := lb) (off := off) (len := 67) (cap := cp) (x := (.tmp 33)) (y := (.tmp 34)) rfl Tryd.underlying39 kr (k) kr (by omega) (sz := 32) kr w)
    · exact E_v 43 (fun β => kyV (K k)) 36 2 [] (fun β w hk hl hq => R_loadH hl (own := false) (g := lb) (all := arr) (t := tyl) (fr := fr) 4 kr 23 (.tmp 35) rfl (off + (k) * 32) kr (arrF .u8 32 (K k)) (harr k (by omega)) _ Tryd.underlying23 rfl (by rw [arrF_size]; kernel_rfl))
    · exact E_callP 43 kq (fun β => kyV (rcK tag fd K k)) 37 rfl kq 2 (fun β r => offAt2_of kr kr) 20 (fun β => #[pt gl 0, kyV tag, ni k, ni ((digL fd).getD k 0), ni 15, kyV (K k)]) (fun β w => kr) 2 [] 2 0 _ _ rfl rfl kr kr rfl (fun β w hk hl hq hm => (lalong_any gl c tag ht (((k : Nat) : Int)) ((((digL fd).getD k 0 : Nat) : Int)) (((15 : Nat) : Int)) (by omega) (by omega) (K k) (hK _) _ hm).mono (fun _ _ ⟨r, q1, q2⟩ => ⟨r, by rw [q1, hr0 k, show (((15 : Nat) : Int) - (((digL fd).getD k 0 : Nat) : Int)).toNat = 15 - (digL fd).getD k 0 from by omega], q2⟩))
    · exact E_callS 43 kq (fun β => sc ((β 13).g) 0 32 (β 13).cap) 38 rfl kq 2 (fun β r => offAt2_of kr kr) 47 (fun β => #[kyV (rcK tag fd K k)]) (fun β w => kr) 2 [] 0 _ rfl kr kr rfl (fun β w hk hl hq => bytesR_any (rcK tag fd K k) _)
    · exact E_app 43 kq (fun β => sc ((β 14).g) 0 ((32 + 32 * k) + 32) (β 14).cap) 39 rfl kq 2 (fun β r => offAt2_of kr kr) 2 [(0, 0)] 1 2 _ _ rfl rfl kr kr rfl rfl (fun β w hk hl hq hm => let ⟨r, w', h1, h2, h3, h4⟩ := run_app (size := 1) (bytes := 1) (t := 54) (e := 5) kr kr hO hm (x := sc ((β 13).g) 0 32 (β 13).cap) (m := 32) (news := oct (kl (rcK tag fd K k))) (RdS.all (hl.at_ (k := 0) rfl) (Own.le hq.1.1)) (by rw [ints_len]; first | rfl | simp [highL_len, hb_len]) (ints_one _ _) (by simp only [maxLen]; omega) (by omega); ⟨r, w', exec_append (s := (.tmp 25)) (x := (.tmp 38)) rfl kr rfl h1, h2, h3, h4⟩)
    · exact E_k 43 (fun β => sc ((β 14).g) 0 ((32 + 32 * k) + 32) (β 14).cap) 11 2
    clear F H; intro β a v Q F H
    replace H : Hp [gl] w [bk ((β 13).g) (sl (oct (kl (rcK tag fd K k))) (β 13).rest) 5, bk ((β 14).g) (sl ((oct (endK tag (rcK tag fd K) k)) ++ (oct (kl (rcK tag fd K k)))) (β 14).rest) 5, bk gl (lgr (β 12).n) 32, bk rq8.g (sl (ints .i64 (digL fd)) rq8.rest) 3, bk aq2 (arrF .u8 32 tag) 23, bk aq3 (arrF .u8 32 fd) 23, bk aq4 z8 23, ⟨false, lb, .cells arr tyl fr⟩] v := H
    replace F : Fm 43 [] [(11, sc ((β 14).g) 0 ((32 + 32 * k) + 32) (β 14).cap), (39, sc ((β 14).g) 0 ((32 + 32 * k) + 32) (β 14).cap), (38, sc ((β 13).g) 0 32 (β 13).cap), (37, kyV (rcK tag fd K k)), (36, kyV (K k)), (35, pt lb (off + (k) * 32)), (34, ni k), (33, sc lb off 67 cp), (32, ni ((digL fd).getD k 0)), (31, pt rq8.g (0 + (k) * 1)), (30, ni k), (29, sc rq8.g 0 67 rq8.cap), (28, ni k), (27, kyV tag), (26, pt gl 0), (25, sc r.g 0 (32 + 32 * k) r.cap), (22, .bool true), (21, ni k), (12, ni k), (10, sc rq8.g 0 67 rq8.cap), (0, pt gl 0), (3, sc lb off 67 cp), (5, pt aq2 0), (6, pt aq3 0), (8, pt aq4 0)] a := F.weak _ (subL_of kr)
    have Qh18_0 : Own (oct (kl (rcK tag fd K k))) (β 13).rest (32) (β 13).cap 1 := Q.1
    have Qh18_1 : Own ((oct (endK tag (rcK tag fd K) k)) ++ (oct (kl (rcK tag fd K k)))) (β 14).rest (((32 + 32 * k) + 32)) (β 14).cap 1 := Q.2.2.1
    clear Q
    generalize β 13 = rq16 at F H Qh18_0 Qh18_1
    generalize β 14 = rq17 at F H Qh18_0 Qh18_1
    generalize β 12 = rq18 at F H Qh18_0 Qh18_1
    skip
    refine ?_
    have hc9 : (oct (endK tag (rcK tag fd K) k)) ++ (oct (kl (rcK tag fd K k))) = oct (endK tag (rcK tag fd K) (k + 1)) := (ints_app .u8 _ _).symm
    rw [hc9] at H Qh18_1
    have hln : ((32 + 32 * k) + 32) = 32 + 32 * (k + 1) := by omega
    rw [hln] at F Qh18_1
    have Qrq17' : Own (oct (endK tag (rcK tag fd K) (k + 1))) rq17.rest (32 + 32 * (k + 1)) rq17.cap 1 := Qh18_1
    replace F : Fm 43 [] [(11, sc rq17.g 0 (32 + 32 * (k + 1)) rq17.cap), (12, ni k), (10, sc rq8.g 0 67 rq8.cap), (0, pt gl 0), (3, sc lb off 67 cp), (5, pt aq2 0), (6, pt aq3 0), (8, pt aq4 0)] a := F.weak _ (subL_of kr)
    replace H : Hp [gl] w [bk rq17.g (sl (oct (endK tag (rcK tag fd K) (k + 1))) rq17.rest) 5, bk gl (lgr rq18.n) 32, bk rq8.g (sl (ints .i64 (digL fd)) rq8.rest) 3, bk aq2 (arrF .u8 32 tag) 23, bk aq3 (arrF .u8 32 fd) 23, bk aq4 z8 23, ⟨false, lb, .cells arr tyl fr⟩] v := H.pick [1, 2, 3, 4, 5, 6, 7] kr _ rfl
    refine hK15 _ _ ?_
    clear hK15
    try clear K15
    refine C_region ?_
    refine T_k F H (ni k) ?_
    clear F; intro a F
    refine T_val F H kr (ni (k + 1)) (fun w _ => R_bin (x := (.tmp 23)) (y := (.const (.int .i64 1))) rfl (k := .i64) (a := ((k : Nat) : Int)) (b := ((1 : Nat) : Int)) kr kr (i_addn64 (a := k) (b := 1) (by omega)) w) ?_
    clear F; intro a F
    refine T_k F H (ni (k + 1)) ?_
    clear F; intro a F
    refine wpList_nil ?_
    replace F : Fm 43 [] [(12, ni (k + 1)), (11, sc rq17.g 0 (32 + 32 * (k + 1)) rq17.cap), (10, sc rq8.g 0 67 rq8.cap), (0, pt gl 0), (3, sc lb off 67 cp), (5, pt aq2 0), (6, pt aq3 0), (8, pt aq4 0)] a := F.weak _ (subL_of kr)
    replace H : Hp [gl] w [bk rq17.g (sl (oct (endK tag (rcK tag fd K) (k + 1))) rq17.rest) 5, bk gl (lgr rq18.n) 32, bk rq8.g (sl (ints .i64 (digL fd)) rq8.rest) 3, bk aq2 (arrF .u8 32 tag) 23, bk aq3 (arrF .u8 32 fd) 23, bk aq4 z8 23, ⟨false, lb, .cells arr tyl fr⟩] v := H
    exact ⟨m, Nat.lt_succ_self m, k + 1, rq17, rq18.n, by omega, Qrq17', F, H⟩
  have hkt : k = 67 := by omega
  rw [hkt] at F H hO
  clear hk
  refine C_seqK (fun K19 hK19 => ?_)
  refine C_seqK (fun K20 hK20 => ?_)
  refine C_region ?_
  refine T_k F H (ni 67) ?_
  clear F; intro a F
  refine T_val F H kr (.bool false) (fun w _ => R_bin (x := (.tmp 21)) (y := (.const (.int .i64 67))) rfl (k := .i64) (a := ((67 : Nat) : Int)) (b := ((67 : Nat) : Int)) kr kr (i_nlt (by omega)) w) ?_
  clear F; intro a F
  refine wpList_nil ?_
  refine hK20 _ _ ?_
  clear hK20
  try clear K20
  refine C_if F false rfl rfl ?_
  refine wp_exit ?_
  refine hK11 _ _ ?_
  clear hK11
  try clear K11
  refine C_seqK (fun K21 hK21 => ?_)
  refine C_region ?_
  refine T_k F H (pt gl 0) ?_
  clear F; intro a F
  refine T_k F H (sc r.g 0 (32 + 32 * 67) r.cap) ?_
  clear F; intro a F
  refine T_callX (α := SlR) F H kr 51 #[pt gl 0, sc r.g 0 (32 + 32 * 67) r.cap] (fun rX => kyV pk) (fun rX => [bk r.g (sl (oct (endK tag (rcK tag fd K) 67)) r.rest) 5, bk gl (lgr rX.n) 32, bk rq8.g (sl (ints .i64 (digL fd)) rq8.rest) 3, bk aq2 (arrF .u8 32 tag) 23, bk aq3 (arrF .u8 32 fd) 23, bk aq4 z8 23, ⟨false, lb, .cells arr tyl fr⟩]) (fun rX => True) (fun w => kr) (fun w H => callsX_putV H (k := 1) rfl ((lsum_blk gl c r.g ((32 + 32 * 67)) (r.cap) (endK tag (rcK tag fd K) 67) _ (endK_len _ _ _) hO.le (by decide) (endK_lt ht hpl 67) _ (H.at_ (k := 0) rfl) (H.at_ (k := 1) rfl)).mono (fun _ _ ⟨r, q1, q2⟩ => ⟨r, by rw [q1, hpk], q2⟩))) ?_
  clear F H; intro rq22 a v Qrq22 F H
  refine T_set F H kr rfl 5 rfl (arrF .u8 32 pk) (S_row 5 rfl 23 (.tmp 8) (.tmp 42) rfl kr (arrF .u8 32 pk) kr (by rw [arrF_size]; kernel_rfl) (by rw [arrF_size]; kernel_rfl) (arrF_one _ _ _)) [bk r.g (sl (oct (endK tag (rcK tag fd K) 67)) r.rest) 5, bk gl (lgr rq22.n) 32, bk rq8.g (sl (ints .i64 (digL fd)) rq8.rest) 3, bk aq2 (arrF .u8 32 tag) 23, bk aq3 (arrF .u8 32 fd) 23, bk aq4 (arrF .u8 32 pk) 23, ⟨false, lb, .cells arr tyl fr⟩] rfl ?_
  clear F H; intro a v F H
  refine T_k F H (ni 0) ?_
  clear F; intro a F
  refine wpList_nil ?_
  refine hK21 _ _ ?_
  clear hK21
  try clear K21
  refine wp_ret ?_
  exact C_ret F H (rs := [.cell 8 23, .tmp 9]) rfl (vs := [kyV pk, ni 0]) (.row 5 rfl rfl _ Tryd.underlying23 rfl kr (.tmp rfl .nil)) (.tuple #[kyV pk, ni 0]) rfl ⟨⟨0, 0, [], rq22.n⟩, rfl, trivial, H.kept, H.at_ (k := 1) rfl⟩
end Go.Proofs.YtdejhenkdbjakaaDoor
