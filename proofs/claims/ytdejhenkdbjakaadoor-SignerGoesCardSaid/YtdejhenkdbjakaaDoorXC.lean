/- Walks: a chain of keys; whether a signature is one. -/
import Derived.Test.YtdejhenkdbjakaaDoorXA
import Derived.Test.YtdejhenkdbjakaaDoorXB
set_option linter.unusedVariables false
set_option linter.unusedSimpArgs false
namespace Go.Proofs.YtdejhenkdbjakaaDoor
open Go Go.RowKit
theorem kl_getD (f : Nat → Nat) {i : Nat} (h : i < 32) : (kl f).getD i 0 = f i := by
  rw [List.getD_eq_getElem?_getD, kl_get f h, Option.getD_some]
theorem key_at (f : Nat → Nat) : ∀ j, j < 32 → (arrF .u8 32 f)[0 + j]? = some (.int .u8 (((kl f).getD j 0 : Nat) : Int)) := fun j h => by
  rw [Nat.zero_add, arrF_get f h, kl_getD f h]
theorem same_keys {f g : Nat → Nat} {b : Bool} (h : b = true ↔ ∀ i, i < 32 → f i = g i) : b = true ↔ ∀ i, i < 32 → (kl f).getD i 0 = (kl g).getD i 0 :=
  h.trans ⟨fun e i hi => by rw [kl_getD f hi, kl_getD g hi]; exact e i hi, fun e i hi => by rw [← kl_getD f hi, ← kl_getD g hi]; exact e i hi⟩

set_option maxRecDepth 100000 in
set_option maxHeartbeats 4000000 in
theorem cpub_any (gm n cb : Nat) (seed : Nat → Nat) (hseed : ∀ i, i < 32 → seed i < 256) (nn : Nat) (hnn : nn < 4294967296) (w : World) (hW : Laid w) (hm : w.heap[gm]? = some (.cells (mtr n) 91 (0, 0))) (hs : w.heap[cb]? = some (.cells (chA seed nn) 60 (0, 0))) : Calls Tryd.prog 33 #[.pointer (some ⟨cb, 0, none⟩), .pointer (some ⟨gm, 0, none⟩)] w fun e w' => ∃ r : SlR, e = .returned (.agg (arrF .u8 32 (pubN seed nn))) ∧ True ∧ Kept [gm] w w' ∧ w'.heap[gm]? = some (.cells (mtr r.n) 91 (0, 0)) := by
  obtain ⟨h00, h01⟩ := hW.apart hm
  have hne : gm ≠ cb := ne_of_ty hm hs rfl
  refine C_enter Tryd.func33 rfl 15 Tryd.ntmps33 (Nat.le_of_ble_eq_true rfl) (fun a F => ?_)
  have H := Hp.startM hm hs hne
  replace F : Fm 15 [] [(0, pt cb 0), (1, pt gm 0)] a := F.weak _ (subL_of kr)
  refine C_seqK (fun K1 hK1 => ?_)
  refine C_region ?_
  refine T_new F H kr (fun ad => pt ad 0) (ce z8 23) (fun w => kr) ?_
  clear F H; intro aq2 a v F H
  refine wpList_nil ?_
  refine hK1 _ _ ?_
  clear hK1
  try clear K1
  refine C_seqK (fun K3 hK3 => ?_)
  refine E_region F H (fun β => [(5, pt gm 0), (6, pt cb 0), (7, pt cb 0), (8, pt cb 0), (9, kyV seed), (10, pt cb 0), (11, pt cb 0), (12, pt cb 32), (13, nw nn), (14, kyV (pubN seed nn))]) [5, 6, 7, 8, 9, 10, 11, 12, 13, 14] [⟨none, none, gm, [], fun q_ => ce (mtr n) 91, gT, [⟨9, [9], fun q_ => ce (mtr (gh q_ 0).n) 91, gT⟩]⟩,
    ⟨none, none, aq2, [], fun q_ => ce z8 23, gT, [⟨10, [], fun q_ => ce (arrF .u8 32 (pubN seed nn)) 23, gT⟩]⟩] [br cb (chA seed nn) 60] [1, 0, 2] 2 [] kr kr kr (fun β => rfl) ⟨fun _ _ => trivial, ⟨fun _ _ => trivial, trivial⟩⟩ ⟨?_, ?_, ?_, ?_, ?_, ?_, ?_, ?_, ?_, ?_, ?_, trivial⟩ ?_
  · exact E_k 15 (fun β => pt gm 0) 5 2
  · exact E_k 15 (fun β => pt cb 0) 6 2
  · exact E_k 15 (fun β => pt cb 0) 7 2
  · exact E_k 15 (fun β => pt cb 0) 8 2
  · exact E_v 15 (fun β => kyV seed) 9 2 [] (fun β w hk hl hq => R_loadH hl (own := false) (g := cb) (all := (chA seed nn)) (t := 60) (fr := (0, 0)) 0 kr 23 (.tmp 8) rfl 0 kr (arrF .u8 32 seed) (part_ext kr) _ Tryd.underlying23 rfl kr)
  · exact E_k 15 (fun β => pt cb 0) 10 2
  · exact E_k 15 (fun β => pt cb 0) 11 2
  · exact E_k 15 (fun β => pt cb 32) 12 2
  · exact E_v 15 (fun β => nw nn) 13 2 [] (fun β w hk hl hq => R_cellH hl (own := false) (g := cb) (all := (chA seed nn)) (t := 60) (fr := (0, 0)) 0 kr 53 (.tmp 12) rfl 32 kr (nw nn) kr _ Tryd.underlying53 rfl)
  · exact E_callP 15 kq (fun β => kyV (pubN seed nn)) 14 rfl kq 2 (fun β r => offAt2_of kr kr) 36 (fun β => #[pt gm 0, kyV seed, nw nn]) (fun β w => kr) 2 [] 0 0 _ _ rfl rfl kr kr rfl (fun β w hk hl hq hm => spub_any gm n seed hseed nn hnn _ (hW.kept hk h00 h01) hm)
  · exact E_store 15 kq rfl 2 [] 1 0 _ _ rfl rfl kr rfl (fun _ => trivial) (fun β w hk hl hq hm => let ⟨w', h1, h2, h3⟩ := P_row (cs := (arrF .u8 32 (pubN seed nn))) (old := z8) rfl rfl (ty := 23) (x := (.tmp 4)) (y := (.tmp 14)) rfl kr kr (by rw [arrF_size]; kernel_rfl) (by rw [arrF_size]; kernel_rfl) (arrF_one _ _ _) hm; ⟨w', h1, h2, h3⟩)
  clear F H; intro β a v Q F H
  replace H : Hp [gm] w [bk gm (mtr (β 9).n) 91, bk aq2 (arrF .u8 32 (pubN seed nn)) 23, br cb (chA seed nn) 60] v := H
  replace F : Fm 15 [] [(14, kyV (pubN seed nn)), (13, nw nn), (12, pt cb 32), (11, pt cb 0), (10, pt cb 0), (9, kyV seed), (8, pt cb 0), (7, pt cb 0), (6, pt cb 0), (5, pt gm 0), (4, pt aq2 0), (0, pt cb 0), (1, pt gm 0)] a := F.weak _ (subL_of kr)
  clear Q
  generalize β 9 = rq4 at F H
  skip
  refine ?_
  refine hK3 _ _ ?_
  clear hK3
  try clear K3
  refine wp_ret ?_
  exact C_ret F H (rs := [.cell 4 23]) rfl (vs := [kyV (pubN seed nn)]) (.row 1 rfl rfl _ Tryd.underlying23 rfl kr .nil) (kyV (pubN seed nn)) rfl ⟨⟨0, 0, [], rq4.n⟩, rfl, trivial, H.kept, H.at_ (k := 0) rfl⟩

set_option maxRecDepth 100000 in
set_option maxHeartbeats 4000000 in
theorem cnext_any (gm n cb : Nat) (seed : Nat → Nat) (hseed : ∀ i, i < 32 → seed i < 256) (nn : Nat) (hnn : nn < 4294967296) (w : World) (hW : Laid w) (hm : w.heap[gm]? = some (.cells (mtr n) 91 (0, 0))) (hs : w.heap[cb]? = some (.cells (chA seed nn) 60 (0, 0))) : Calls Tryd.prog 34 #[.pointer (some ⟨cb, 0, none⟩), .pointer (some ⟨gm, 0, none⟩)] w fun e w' => ∃ r : SlR, e = .returned (.agg (arrF .u8 32 (pubN seed (add32 (nn) (1))))) ∧ True ∧ Kept [gm] w w' ∧ w'.heap[gm]? = some (.cells (mtr r.n) 91 (0, 0)) := by
  obtain ⟨h00, h01⟩ := hW.apart hm
  have hne : gm ≠ cb := ne_of_ty hm hs rfl
  refine C_enter Tryd.func34 rfl 16 Tryd.ntmps34 (Nat.le_of_ble_eq_true rfl) (fun a F => ?_)
  have H := Hp.startM hm hs hne
  replace F : Fm 16 [] [(0, pt cb 0), (1, pt gm 0)] a := F.weak _ (subL_of kr)
  refine C_seqK (fun K1 hK1 => ?_)
  refine C_region ?_
  refine T_new F H kr (fun ad => pt ad 0) (ce z8 23) (fun w => kr) ?_
  clear F H; intro aq2 a v F H
  refine wpList_nil ?_
  refine hK1 _ _ ?_
  clear hK1
  try clear K1
  refine C_seqK (fun K3 hK3 => ?_)
  refine E_region F H (fun β => [(5, pt gm 0), (6, pt cb 0), (7, pt cb 0), (8, pt cb 0), (9, kyV seed), (10, pt cb 0), (11, pt cb 0), (12, pt cb 32), (13, nw nn), (14, nw (add32 (nn) (1))), (15, kyV (pubN seed (add32 (nn) (1))))]) [5, 6, 7, 8, 9, 10, 11, 12, 13, 14, 15] [⟨none, none, gm, [], fun q_ => ce (mtr n) 91, gT, [⟨10, [10], fun q_ => ce (mtr (gh q_ 0).n) 91, gT⟩]⟩,
    ⟨none, none, aq2, [], fun q_ => ce z8 23, gT, [⟨11, [], fun q_ => ce (arrF .u8 32 (pubN seed (add32 (nn) (1)))) 23, gT⟩]⟩] [br cb (chA seed nn) 60] [1, 0, 2] 2 [] kr kr kr (fun β => rfl) ⟨fun _ _ => trivial, ⟨fun _ _ => trivial, trivial⟩⟩ ⟨?_, ?_, ?_, ?_, ?_, ?_, ?_, ?_, ?_, ?_, ?_, ?_, trivial⟩ ?_
  · exact E_k 16 (fun β => pt gm 0) 5 2
  · exact E_k 16 (fun β => pt cb 0) 6 2
  · exact E_k 16 (fun β => pt cb 0) 7 2
  · exact E_k 16 (fun β => pt cb 0) 8 2
  · exact E_v 16 (fun β => kyV seed) 9 2 [] (fun β w hk hl hq => R_loadH hl (own := false) (g := cb) (all := (chA seed nn)) (t := 60) (fr := (0, 0)) 0 kr 23 (.tmp 8) rfl 0 kr (arrF .u8 32 seed) (part_ext kr) _ Tryd.underlying23 rfl kr)
  · exact E_k 16 (fun β => pt cb 0) 10 2
  · exact E_k 16 (fun β => pt cb 0) 11 2
  · exact E_k 16 (fun β => pt cb 32) 12 2
  · exact E_v 16 (fun β => nw nn) 13 2 [] (fun β w hk hl hq => R_cellH hl (own := false) (g := cb) (all := (chA seed nn)) (t := 60) (fr := (0, 0)) 0 kr 53 (.tmp 12) rfl 32 kr (nw nn) kr _ Tryd.underlying53 rfl)
  · exact E_v 16 (fun β => nw (add32 (nn) (1))) 14 2 [] (fun β w hk hl hq => R_bin (x := (.tmp 13)) (y := (.const (.int .u32 1))) rfl (k := .u32) (a := ((nn : Nat) : Int)) (b := ((1 : Nat) : Int)) kr kr (i_add32 (a := nn) (b := 1)) w)
  · exact E_callP 16 kq (fun β => kyV (pubN seed (add32 (nn) (1)))) 15 rfl kq 2 (fun β r => offAt2_of kr kr) 36 (fun β => #[pt gm 0, kyV seed, nw (add32 (nn) (1))]) (fun β w => kr) 2 [] 0 0 _ _ rfl rfl kr kr rfl (fun β w hk hl hq hm => spub_any gm n seed hseed (add32 (nn) (1)) (add32_lt _ _) _ (hW.kept hk h00 h01) hm)
  · exact E_store 16 kq rfl 2 [] 1 0 _ _ rfl rfl kr rfl (fun _ => trivial) (fun β w hk hl hq hm => let ⟨w', h1, h2, h3⟩ := P_row (cs := (arrF .u8 32 (pubN seed (add32 (nn) (1))))) (old := z8) rfl rfl (ty := 23) (x := (.tmp 4)) (y := (.tmp 15)) rfl kr kr (by rw [arrF_size]; kernel_rfl) (by rw [arrF_size]; kernel_rfl) (arrF_one _ _ _) hm; ⟨w', h1, h2, h3⟩)
  clear F H; intro β a v Q F H
  replace H : Hp [gm] w [bk gm (mtr (β 10).n) 91, bk aq2 (arrF .u8 32 (pubN seed (add32 (nn) (1)))) 23, br cb (chA seed nn) 60] v := H
  replace F : Fm 16 [] [(15, kyV (pubN seed (add32 (nn) (1)))), (14, nw (add32 (nn) (1))), (13, nw nn), (12, pt cb 32), (11, pt cb 0), (10, pt cb 0), (9, kyV seed), (8, pt cb 0), (7, pt cb 0), (6, pt cb 0), (5, pt gm 0), (4, pt aq2 0), (0, pt cb 0), (1, pt gm 0)] a := F.weak _ (subL_of kr)
  clear Q
  generalize β 10 = rq4 at F H
  skip
  refine ?_
  refine hK3 _ _ ?_
  clear hK3
  try clear K3
  refine wp_ret ?_
  exact C_ret F H (rs := [.cell 4 23]) rfl (vs := [kyV (pubN seed (add32 (nn) (1)))]) (.row 1 rfl rfl _ Tryd.underlying23 rfl kr .nil) (kyV (pubN seed (add32 (nn) (1)))) rfl ⟨⟨0, 0, [], rq4.n⟩, rfl, trivial, H.kept, H.at_ (k := 0) rfl⟩

set_option maxRecDepth 100000 in
set_option maxHeartbeats 4000000 in
theorem csign_no (cb : Nat) (seed : Nat → Nat) (mv pv : Value) (w : World) (hs : w.heap[cb]? = some (.cells (chA seed 4294967295) 60 (0, 0))) : Calls Tryd.prog 35 #[.pointer (some ⟨cb, 0, none⟩), mv, pv] w fun e w' => e = .returned (.tuple #[.slice none 0 0, .int .i64 82]) ∧ Kept [] w w' := by
  refine C_enter Tryd.func35 rfl 33 Tryd.ntmps35 (Nat.le_of_ble_eq_true rfl) (fun a F => ?_)
  have H := Hp.start1 [] hs
  replace F : Fm 33 [] [(0, pt cb 0), (1, mv), (2, pv)] a := F.weak _ (subL_of kr)
  refine C_seqK (fun K1 hK1 => ?_)
  refine C_region ?_
  refine T_k F H (.slice none 0 0) ?_
  clear F; intro a F
  refine T_k F H (ni 0) ?_
  clear F; intro a F
  refine wpList_nil ?_
  refine hK1 _ _ ?_
  clear hK1
  try clear K1
  refine C_seqK (fun K2 hK2 => ?_)
  refine C_seqK (fun K3 hK3 => ?_)
  refine C_region ?_
  refine T_k F H (pt cb 0) ?_
  clear F; intro a F
  refine T_k F H (pt cb 0) ?_
  clear F; intro a F
  refine T_k F H (pt cb 32) ?_
  clear F; intro a F
  refine T_val F H kr (nw 4294967295) (R_cell (own := false) (g := cb) (all := (chA seed 4294967295)) (t := 60) (fr := (0, 0)) 0 kr 53 (.tmp 11) rfl 32 kr (nw 4294967295) kr _ Tryd.underlying53 rfl) ?_
  clear F; intro a F
  refine T_k F H (.bool true) ?_
  clear F; intro a F
  refine wpList_nil ?_
  refine hK3 _ _ ?_
  clear hK3
  try clear K3
  refine C_if F true rfl rfl ?_
  refine C_seqK (fun K4 hK4 => ?_)
  refine C_region ?_
  refine T_k F H (.slice none 0 0) ?_
  clear F; intro a F
  refine T_k F H (ni 82) ?_
  clear F; intro a F
  refine wpList_nil ?_
  refine hK4 _ _ ?_
  clear hK4
  try clear K4
  refine wp_ret ?_
  repeat (first | with_reducible refine then_ret ?_ | with_reducible refine inB_ret ?_)
  exact C_ret F H (rs := [.tmp 6, .tmp 7]) rfl (vs := [.slice none 0 0, ni 82]) (.tmp rfl (.tmp rfl .nil)) (.tuple #[.slice none 0 0, ni 82]) rfl ⟨rfl, H.kept⟩

theorem i_neqf {k : IntKind} {a b : Nat} (h : a ≠ b) : intRes .eql k ((a : Nat) : Int) ((b : Nat) : Int) = some (.bool false) := by
  have : ¬ (a : Int) = (b : Int) := by omega
  simp [intRes, this]

set_option maxRecDepth 100000 in
set_option maxHeartbeats 4000000 in
theorem csign_any (gm n cb : Nat) (seed : Nat → Nat) (hseed : ∀ i, i < 32 → seed i < 256) (nn : Nat) (hnn : nn < 4294967296) (hlast : nn ≠ 4294967295) (p : SlP) (hbk : ∀ x ∈ p.l, x < 256) (hn : p.l.length = p.n) (h64 : p.n ≤ 1000) (w : World) (hrd : RdK [gm, cb] w p) (hW : Laid w) (hm : w.heap[gm]? = some (.cells (mtr n) 91 (0, 0))) (hs : w.heap[cb]? = some (.cells (chA seed nn) 60 (0, 0))) : Calls Tryd.prog 35 #[.pointer (some ⟨cb, 0, none⟩), .pointer (some ⟨gm, 0, none⟩), .slice p.ad p.n p.c] w fun e w' => ∃ r : SlR, e = .returned (.tuple #[.slice (some ⟨r.g, 0, none⟩) 67 r.cap, .int .i64 0]) ∧ Own (keysC (sigN seed nn p.l) 67) r.rest 67 r.cap 32 ∧ w.heap.size ≤ r.g ∧ w'.heap[r.g]? = some (.cells (sl (keysC (sigN seed nn p.l) 67) r.rest) 23 (0, 0)) ∧ Kept [gm, cb] w w' ∧ w'.heap[gm]? = some (.cells (mtr r.n) 91 (0, 0)) ∧ w'.heap[cb]? = some (.cells (chA seed (add32 (nn) (1))) 60 (0, 0)) := by
  obtain ⟨h00, h01⟩ := hW.apart hm
  have hne : gm ≠ cb := ne_of_ty hm hs rfl
  have h00' : 0 ∉ [gm, cb] := fun h => by
    rcases List.mem_cons.1 h with h | h
    · exact h00 (List.mem_singleton.2 h)
    · exact ne_of_ty hW.start hs rfl (List.mem_singleton.1 h)
  have h01' : 1 ∉ [gm, cb] := fun h => by
    rcases List.mem_cons.1 h with h | h
    · exact h01 (List.mem_singleton.2 h)
    · exact ne_of_ty hW.rounds hs rfl (List.mem_singleton.1 h)
  refine C_enter Tryd.func35 rfl 33 Tryd.ntmps35 (Nat.le_of_ble_eq_true rfl) (fun a F => ?_)
  have H := Hp.startGS hm hs hne
  replace F : Fm 33 [] [(0, pt cb 0), (1, pt gm 0), (2, .slice p.ad p.n p.c)] a := F.weak _ (subL_of kr)
  refine C_seqK (fun K1 hK1 => ?_)
  refine C_region ?_
  refine T_k F H (.slice none 0 0) ?_
  clear F; intro a F
  refine T_k F H (ni 0) ?_
  clear F; intro a F
  refine wpList_nil ?_
  refine hK1 _ _ ?_
  clear hK1
  try clear K1
  refine C_seqK (fun K2 hK2 => ?_)
  refine C_seqK (fun K3 hK3 => ?_)
  refine C_region ?_
  refine T_k F H (pt cb 0) ?_
  clear F; intro a F
  refine T_k F H (pt cb 0) ?_
  clear F; intro a F
  refine T_k F H (pt cb 32) ?_
  clear F; intro a F
  refine T_val F H kr (nw nn) (R_cell (own := true) (g := cb) (all := (chA seed nn)) (t := 60) (fr := (0, 0)) 1 kr 53 (.tmp 11) rfl 32 kr (nw nn) kr _ Tryd.underlying53 rfl) ?_
  clear F; intro a F
  refine T_val F H kr (.bool false) (fun w _ => R_bin (x := (.tmp 12)) (y := (.const (.int .u32 4294967295))) rfl (k := .u32) (a := ((nn : Nat) : Int)) (b := ((4294967295 : Nat) : Int)) kr kr (i_neqf hlast) w) ?_
  clear F; intro a F
  refine wpList_nil ?_
  refine hK3 _ _ ?_
  clear hK3
  try clear K3
  refine C_if F false rfl rfl ?_
  refine wp_skip ?_
  refine hK2 _ _ ?_
  clear hK2
  try clear K2
  refine C_seqK (fun K4 hK4 => ?_)
  refine E_region F H (fun β => [(14, pt gm 0), (15, pt cb 0), (16, pt cb 0), (17, pt cb 0), (18, kyV seed), (19, pt cb 0), (20, pt cb 0), (21, pt cb 32), (22, nw nn), (23, .slice p.ad p.n p.c), (24, sc ((β 10).g) 0 67 (β 10).cap), (8, sc ((β 10).g) 0 67 (β 10).cap)]) [14, 15, 16, 17, 18, 19, 20, 21, 22, 23, 24, 8] [⟨some 10, none, 0, [10], fun q_ => ce (sl (keysC (sigN seed nn p.l) 67) (gh q_ 0).rest) 23, fun q_ => Own (keysC (sigN seed nn p.l) 67) (gh q_ 0).rest 67 (gh q_ 0).cap 32, []⟩,
    ⟨none, none, gm, [], fun q_ => ce (mtr n) 91, gT, [⟨10, [10], fun q_ => ce (mtr (gh q_ 0).n) 91, gT⟩]⟩] [bk cb (chA seed nn) 60] [0, 1] 2 [] kr kr kr (fun β => rfl) ⟨fun h _ => Bool.noConfusion h, ⟨fun _ _ => trivial, trivial⟩⟩ ⟨?_, ?_, ?_, ?_, ?_, ?_, ?_, ?_, ?_, ?_, ?_, ?_, trivial⟩ ?_
  · exact E_k 33 (fun β => pt gm 0) 14 2
  · exact E_k 33 (fun β => pt cb 0) 15 2
  · exact E_k 33 (fun β => pt cb 0) 16 2
  · exact E_k 33 (fun β => pt cb 0) 17 2
  · exact E_v 33 (fun β => kyV seed) 18 2 [] (fun β w hk hl hq => R_loadH hl (own := true) (g := cb) (all := (chA seed nn)) (t := 60) (fr := (0, 0)) 0 kr 23 (.tmp 17) rfl 0 kr (arrF .u8 32 seed) (part_ext kr) _ Tryd.underlying23 rfl kr)
  · exact E_k 33 (fun β => pt cb 0) 19 2
  · exact E_k 33 (fun β => pt cb 0) 20 2
  · exact E_k 33 (fun β => pt cb 32) 21 2
  · exact E_v 33 (fun β => nw nn) 22 2 [] (fun β w hk hl hq => R_cellH hl (own := true) (g := cb) (all := (chA seed nn)) (t := 60) (fr := (0, 0)) 0 kr 53 (.tmp 21) rfl 32 kr (nw nn) kr _ Tryd.underlying53 rfl)
  · exact E_k 33 (fun β => .slice p.ad p.n p.c) 23 2
  · exact E_callSP 33 kq (fun β => sc ((β 10).g) 0 67 (β 10).cap) 24 rfl kq 2 (fun β r => offAt2_of kr kr) 58 (fun β => #[pt gm 0, kyV seed, nw nn, .slice p.ad p.n p.c]) (fun β w => kr) 2 [] 0 0 0 _ _ _ rfl rfl rfl kr kr rfl (fun β w hk hl hq hm => ssign_any gm n seed hseed nn hnn p hbk hn h64 _ ((hrd.kept hk).sub (by simp)) (hW.kept hk h00' h01') hm)
  · exact E_k 33 (fun β => sc ((β 10).g) 0 67 (β 10).cap) 8 2
  clear F H; intro β a v Q F H
  replace H : Hp [gm, cb] w [bk ((β 10).g) (sl (keysC (sigN seed nn p.l) 67) (β 10).rest) 23, bk gm (mtr (β 10).n) 91, bk cb (chA seed nn) 60] v := H
  replace F : Fm 33 [] [(8, sc ((β 10).g) 0 67 (β 10).cap), (24, sc ((β 10).g) 0 67 (β 10).cap), (23, .slice p.ad p.n p.c), (22, nw nn), (21, pt cb 32), (20, pt cb 0), (19, pt cb 0), (18, kyV seed), (17, pt cb 0), (16, pt cb 0), (15, pt cb 0), (14, pt gm 0), (13, .bool false), (12, nw nn), (11, pt cb 32), (10, pt cb 0), (9, pt cb 0), (7, ni 0), (6, .slice none 0 0), (0, pt cb 0), (1, pt gm 0), (2, .slice p.ad p.n p.c)] a := F.weak _ (subL_of kr)
  have Qh5_0 : Own (keysC (sigN seed nn p.l) 67) (β 10).rest 67 (β 10).cap 32 := Q.1
  clear Q
  generalize β 10 = rq5 at F H Qh5_0
  skip
  refine ?_
  refine hK4 _ _ ?_
  clear hK4
  try clear K4
  refine C_seqK (fun K6 hK6 => ?_)
  refine C_region ?_
  refine T_k F H (pt cb 0) ?_
  clear F; intro a F
  refine T_k F H (pt cb 0) ?_
  clear F; intro a F
  refine T_k F H (pt cb 32) ?_
  clear F; intro a F
  refine T_val F H kr (nw nn) (R_cell (own := true) (g := cb) (all := (chA seed nn)) (t := 60) (fr := (0, 0)) 2 kr 53 (.tmp 27) rfl 32 kr (nw nn) kr _ Tryd.underlying53 rfl) ?_
  clear F; intro a F
  refine T_val F H kr (nw (add32 (nn) (1))) (fun w _ => R_bin (x := (.tmp 28)) (y := (.const (.int .u32 1))) rfl (k := .u32) (a := ((nn : Nat) : Int)) (b := ((1 : Nat) : Int)) kr kr (i_add32 (a := nn) (b := 1)) w) ?_
  clear F; intro a F
  refine T_k F H (pt cb 0) ?_
  clear F; intro a F
  refine T_k F H (pt cb 32) ?_
  clear F; intro a F
  refine T_set F H kr rfl 2 rfl _ (S_cell 2 rfl 53 (.tmp 31) (.tmp 29) rfl 32 kr (nw (add32 (nn) (1))) kr rfl (Nat.le_of_ble_eq_true rfl) _ Tryd.underlying53 rfl kr) [bk rq5.g (sl (keysC (sigN seed nn p.l) 67) rq5.rest) 23, bk gm (mtr rq5.n) 91, bk cb (chA seed (add32 (nn) (1))) 60] (by rw [chA_set]; rfl) ?_
  clear F H; intro a v F H
  refine wpList_nil ?_
  refine hK6 _ _ ?_
  clear hK6
  try clear K6
  refine C_seqK (fun K7 hK7 => ?_)
  refine C_region ?_
  refine T_k F H (sc rq5.g 0 67 rq5.cap) ?_
  clear F; intro a F
  refine T_k F H (sc rq5.g 0 67 rq5.cap) ?_
  clear F; intro a F
  refine T_k F H (ni 0) ?_
  clear F; intro a F
  refine wpList_nil ?_
  refine hK7 _ _ ?_
  clear hK7
  try clear K7
  refine wp_ret ?_
  exact C_ret F H (rs := [.tmp 6, .tmp 7]) rfl (vs := [sc rq5.g 0 67 rq5.cap, ni 0]) (.tmp rfl (.tmp rfl .nil)) (.tuple #[sc rq5.g 0 67 rq5.cap, ni 0]) rfl ⟨⟨rq5.g, rq5.cap, rq5.rest, rq5.n⟩, rfl, Qh5_0, (H.own ⟨true, rq5.g, _⟩ (List.mem_of_getElem? (i := 0) rfl) rfl).resolve_right (fun h => (List.mem_cons.1 h).elim (H.apart (i := 0) (j := 1) rfl rfl (by decide)) (fun h => H.apart (i := 0) (j := 2) rfl rfl (by decide) (List.mem_singleton.1 h))), H.at_ (k := 0) rfl, H.kept, H.at_ (k := 1) rfl, H.at_ (k := 2) rfl⟩

set_option maxRecDepth 100000 in
set_option maxHeartbeats 4000000 in
theorem verify_yes (gm n : Nat) (pub : Nat → Nat) (hpub : ∀ i, i < 32 → pub i < 256) (nn : Nat) (hnn : nn < 4294967296) (p : SlP) (hbk : ∀ x ∈ p.l, x < 256) (hn : p.l.length = p.n) (h64 : p.n ≤ 1000) (K : Nat → Nat → Nat) (hK : ∀ k i, i < 32 → K k i < 256) (lb off cp : Nat) (arr : Array Value) (tyl : TypeId) (fr : Nat × Nat) (harr : ∀ k, k < 67 → ∀ j v, (arrF .u8 32 (K k))[j]? = some v → arr[(off + k * 32) + j]? = some v) (hbb : ∀ i, i < 32 → vfK nn p.l K i = pub i) (w : World) (hrd : RdK [gm] w p) (hW : Laid w) (hm : w.heap[gm]? = some (.cells (mtr n) 91 (0, 0))) (hl : w.heap[lb]? = some (.cells arr tyl fr)) (hne : gm ≠ lb) : Calls Tryd.prog 31 #[.pointer (some ⟨gm, 0, none⟩), .agg (arrF .u8 32 pub), .int .u32 ((nn : Nat) : Int), .slice p.ad p.n p.c, .slice (some ⟨lb, off, none⟩) 67 cp] w fun e w' => ∃ r : SlR, e = .returned (.int .i64 0) ∧ True ∧ Kept [gm] w w' ∧ w'.heap[gm]? = some (.cells (mtr r.n) 91 (0, 0)) := by
  obtain ⟨h00, h01⟩ := hW.apart hm
  obtain ⟨rk, hrk⟩ : ∃ rk, rk = vfK nn p.l K := ⟨_, rfl⟩
  rw [← hrk] at hbb
  refine C_enter Tryd.func31 rfl 33 Tryd.ntmps31 (Nat.le_of_ble_eq_true rfl) (fun a F => ?_)
  have H := Hp.startM hm hl hne
  replace F : Fm 33 [] [(0, pt gm 0), (1, kyV pub), (2, nw nn), (3, .slice p.ad p.n p.c), (4, sc lb off 67 cp)] a := F.weak _ (subL_of kr)
  refine C_seqK (fun K1 hK1 => ?_)
  refine C_region ?_
  refine T_new F H kr (fun ad => pt ad 0) (ce (arrF .u8 32 pub) 23) (fun w => kr) ?_
  clear F H; intro aq2 a v F H
  refine T_k F H (ni 0) ?_
  clear F; intro a F
  refine wpList_nil ?_
  refine hK1 _ _ ?_
  clear hK1
  try clear K1
  refine C_seqK (fun K3 hK3 => ?_)
  refine C_region ?_
  refine T_k F H (pt gm 0) ?_
  clear F; intro a F
  refine T_k F H (pt gm 0) ?_
  clear F; intro a F
  refine T_k F H (nw nn) ?_
  clear F; intro a F
  refine T_callX (α := SlR) F H kr 59 #[pt gm 0, nw nn] (fun rX => kyV (tgF nn)) (fun rX => [bk aq2 (arrF .u8 32 pub) 23, bk gm (mtr rX.n) 91, ⟨false, lb, .cells arr tyl fr⟩]) (fun rX => True) (fun w => kr) (fun w H => callsX_putV H (k := 1) rfl (stag_any gm n nn hnn _ (hW.kept H.kept h00 h01) (H.at_ (k := 1) rfl))) ?_
  clear F H; intro rq4 a v Qrq4 F H
  refine T_k F H (pt gm 0) ?_
  clear F; intro a F
  refine T_k F H (.slice p.ad p.n p.c) ?_
  clear F; intro a F
  refine T_callX (α := SlR) F H kr 60 #[pt gm 0, .slice p.ad p.n p.c] (fun rX => kyV (dgF p.l)) (fun rX => [bk aq2 (arrF .u8 32 pub) 23, bk gm (mtr rX.n) 91, ⟨false, lb, .cells arr tyl fr⟩]) (fun rX => True) (fun w => kr) (fun w H => callsX_putV H (k := 1) rfl (sdig_any gm rq4.n p hbk hn h64 _ (hrd.kept H.kept) (hW.kept H.kept h00 h01) (H.at_ (k := 1) rfl))) ?_
  clear F H; intro rq5 a v Qrq5 F H
  refine T_k F H (sc lb off 67 cp) ?_
  clear F; intro a F
  refine T_callX (α := SlR) F H kr 27 #[pt gm 0, kyV (tgF nn), kyV (dgF p.l), sc lb off 67 cp] (fun rX => .tuple #[kyV rk, ni 0]) (fun rX => [bk aq2 (arrF .u8 32 pub) 23, bk gm (mtr rX.n) 91, ⟨false, lb, .cells arr tyl fr⟩]) (fun rX => True) (fun w => kr) (fun w H => callsX_putV H (k := 1) rfl ((recoverS_any gm rq5.n (tgF nn) (tgF_lt _) (dgF p.l) (dgF_lt _) K hK lb off cp arr tyl fr harr _ (hW.kept H.kept h00 h01) (H.at_ (k := 1) rfl) (H.at_ (k := 2) rfl) hne).mono (fun _ _ ⟨r, q1, q2⟩ => ⟨r, by rw [q1, hrk]; rfl, q2⟩))) ?_
  clear F H; intro rq6 a v Qrq6 F H
  refine T_k F H (.tuple #[kyV rk, ni 0]) ?_
  clear F; intro a F
  refine T_k F H (kyV rk) ?_
  clear F; intro a F
  refine T_k F H (ni 0) ?_
  clear F; intro a F
  refine T_new F H kr (fun ad => pt ad 0) (ce z8 23) (fun w => kr) ?_
  clear F H; intro aq7 a v F H
  refine T_set F H kr rfl 0 rfl (arrF .u8 32 rk) (S_row 0 rfl 23 (.tmp 11) (.tmp 23) rfl kr (arrF .u8 32 rk) kr (by rw [arrF_size]; kernel_rfl) (by rw [arrF_size]; kernel_rfl) (arrF_one _ _ _)) [bk aq7 (arrF .u8 32 rk) 23, bk aq2 (arrF .u8 32 pub) 23, bk gm (mtr rq6.n) 91, ⟨false, lb, .cells arr tyl fr⟩] rfl ?_
  clear F H; intro a v F H
  refine T_k F H (ni 0) ?_
  clear F; intro a F
  refine wpList_nil ?_
  refine hK3 _ _ ?_
  clear hK3
  try clear K3
  refine C_seqK (fun K8 hK8 => ?_)
  refine C_seqK (fun K9 hK9 => ?_)
  have hrkl : ∀ x ∈ kl rk, x < 256 := by rw [hrk]; exact kl_lt (fun i _ => shaK_lt _ i)
  have hne2 : aq7 ≠ aq2 := H.apart (i := 0) (j := 1) rfl rfl (by decide)
  refine E_region F H (fun β => [(25, ni 0), (26, .bool false), (27, .bool false), (28, sc aq7 0 32 32), (29, sc aq2 0 32 32), (30, .bool true), (31, .bool false), (32, .bool false)]) [25, 26, 27, 28, 29, 30, 31, 32] [] [bk aq7 (arrF .u8 32 rk) 23, bk aq2 (arrF .u8 32 pub) 23, bk gm (mtr rq6.n) 91, ⟨false, lb, .cells arr tyl fr⟩] [0, 1, 2, 3] 2 [] kr kr kr (fun β => rfl) trivial ⟨?_, ?_, ?_, ?_, ?_, ?_, ?_, ?_, trivial⟩ ?_
  · exact E_k 33 (fun β => ni 0) 25 2
  · exact E_k 33 (fun β => .bool false) 26 2
  · exact E_k 33 (fun β => .bool false) 27 2
  · exact E_k 33 (fun β => sc aq7 0 32 32) 28 2
  · exact E_k 33 (fun β => sc aq2 0 32 32) 29 2
  · exact E_call 33 kq (fun β => .bool true) 30 rfl kq 61 (fun β => #[sc aq7 0 32 32, sc aq2 0 32 32]) (fun β w => kr) 2 [] kr rfl (fun β w hk hl hq => same_any (kl rk) hrkl (kl pub) (kl_lt hpub) aq7 0 32 32 (arrF .u8 32 rk) 23 (0, 0) aq2 0 32 32 (arrF .u8 32 pub) 23 (0, 0) (key_at rk) (key_at pub) rfl (by decide) true (same_keys (show (true : Bool) = true ↔ _ from ⟨fun _ => hbb, fun _ => rfl⟩)) _ (hl.at_ (k := 0) rfl) (hl.at_ (k := 1) rfl) hne2)
  · exact E_k 33 (fun β => .bool false) 31 2
  · exact E_k 33 (fun β => .bool false) 32 2
  clear F H; intro β a v Q F H
  replace H : Hp [gm] w [bk aq7 (arrF .u8 32 rk) 23, bk aq2 (arrF .u8 32 pub) 23, bk gm (mtr rq6.n) 91, ⟨false, lb, .cells arr tyl fr⟩] v := H
  replace F : Fm 33 [] [(32, .bool false), (31, .bool false), (30, .bool true), (29, sc aq2 0 32 32), (28, sc aq7 0 32 32), (27, .bool false), (26, .bool false), (25, ni 0), (12, ni 0), (11, pt aq7 0), (24, ni 0), (23, kyV rk), (13, .tuple #[kyV rk, ni 0]), (22, .tuple #[kyV rk, ni 0]), (21, sc lb off 67 cp), (20, kyV (dgF p.l)), (19, .slice p.ad p.n p.c), (18, pt gm 0), (17, kyV (tgF nn)), (16, nw nn), (15, pt gm 0), (14, pt gm 0), (10, ni 0), (6, pt aq2 0), (0, pt gm 0), (1, kyV pub), (2, nw nn), (3, .slice p.ad p.n p.c), (4, sc lb off 67 cp)] a := F.weak _ (subL_of kr)
  clear Q
  refine ?_
  refine hK9 _ _ ?_
  clear hK9
  try clear K9
  refine C_if F false rfl rfl ?_
  refine wp_skip ?_
  refine hK8 _ _ ?_
  clear hK8
  try clear K8
  refine C_seqK (fun K10 hK10 => ?_)
  refine C_region ?_
  refine T_k F H (ni 0) ?_
  clear F; intro a F
  refine wpList_nil ?_
  refine hK10 _ _ ?_
  clear hK10
  try clear K10
  refine wp_ret ?_
  exact C_ret F H (rs := [.tmp 10]) rfl (vs := [ni 0]) (.tmp rfl .nil) (ni 0) rfl ⟨⟨0, 0, [], rq6.n⟩, rfl, trivial, H.kept, H.at_ (k := 2) rfl⟩

set_option maxRecDepth 100000 in
set_option maxHeartbeats 4000000 in
theorem verify_no (gm n : Nat) (pub : Nat → Nat) (hpub : ∀ i, i < 32 → pub i < 256) (nn : Nat) (hnn : nn < 4294967296) (p : SlP) (hbk : ∀ x ∈ p.l, x < 256) (hn : p.l.length = p.n) (h64 : p.n ≤ 1000) (K : Nat → Nat → Nat) (hK : ∀ k i, i < 32 → K k i < 256) (lb off cp : Nat) (arr : Array Value) (tyl : TypeId) (fr : Nat × Nat) (harr : ∀ k, k < 67 → ∀ j v, (arrF .u8 32 (K k))[j]? = some v → arr[(off + k * 32) + j]? = some v) (hbb : ¬ ∀ i, i < 32 → vfK nn p.l K i = pub i) (w : World) (hrd : RdK [gm] w p) (hW : Laid w) (hm : w.heap[gm]? = some (.cells (mtr n) 91 (0, 0))) (hl : w.heap[lb]? = some (.cells arr tyl fr)) (hne : gm ≠ lb) : Calls Tryd.prog 31 #[.pointer (some ⟨gm, 0, none⟩), .agg (arrF .u8 32 pub), .int .u32 ((nn : Nat) : Int), .slice p.ad p.n p.c, .slice (some ⟨lb, off, none⟩) 67 cp] w fun e w' => ∃ r : SlR, e = .returned (.int .i64 40) ∧ True ∧ Kept [gm] w w' ∧ w'.heap[gm]? = some (.cells (mtr r.n) 91 (0, 0)) := by
  obtain ⟨h00, h01⟩ := hW.apart hm
  obtain ⟨rk, hrk⟩ : ∃ rk, rk = vfK nn p.l K := ⟨_, rfl⟩
  rw [← hrk] at hbb
  refine C_enter Tryd.func31 rfl 33 Tryd.ntmps31 (Nat.le_of_ble_eq_true rfl) (fun a F => ?_)
  have H := Hp.startM hm hl hne
  replace F : Fm 33 [] [(0, pt gm 0), (1, kyV pub), (2, nw nn), (3, .slice p.ad p.n p.c), (4, sc lb off 67 cp)] a := F.weak _ (subL_of kr)
  refine C_seqK (fun K1 hK1 => ?_)
  refine C_region ?_
  refine T_new F H kr (fun ad => pt ad 0) (ce (arrF .u8 32 pub) 23) (fun w => kr) ?_
  clear F H; intro aq2 a v F H
  refine T_k F H (ni 0) ?_
  clear F; intro a F
  refine wpList_nil ?_
  refine hK1 _ _ ?_
  clear hK1
  try clear K1
  refine C_seqK (fun K3 hK3 => ?_)
  refine C_region ?_
  refine T_k F H (pt gm 0) ?_
  clear F; intro a F
  refine T_k F H (pt gm 0) ?_
  clear F; intro a F
  refine T_k F H (nw nn) ?_
  clear F; intro a F
  refine T_callX (α := SlR) F H kr 59 #[pt gm 0, nw nn] (fun rX => kyV (tgF nn)) (fun rX => [bk aq2 (arrF .u8 32 pub) 23, bk gm (mtr rX.n) 91, ⟨false, lb, .cells arr tyl fr⟩]) (fun rX => True) (fun w => kr) (fun w H => callsX_putV H (k := 1) rfl (stag_any gm n nn hnn _ (hW.kept H.kept h00 h01) (H.at_ (k := 1) rfl))) ?_
  clear F H; intro rq4 a v Qrq4 F H
  refine T_k F H (pt gm 0) ?_
  clear F; intro a F
  refine T_k F H (.slice p.ad p.n p.c) ?_
  clear F; intro a F
  refine T_callX (α := SlR) F H kr 60 #[pt gm 0, .slice p.ad p.n p.c] (fun rX => kyV (dgF p.l)) (fun rX => [bk aq2 (arrF .u8 32 pub) 23, bk gm (mtr rX.n) 91, ⟨false, lb, .cells arr tyl fr⟩]) (fun rX => True) (fun w => kr) (fun w H => callsX_putV H (k := 1) rfl (sdig_any gm rq4.n p hbk hn h64 _ (hrd.kept H.kept) (hW.kept H.kept h00 h01) (H.at_ (k := 1) rfl))) ?_
  clear F H; intro rq5 a v Qrq5 F H
  refine T_k F H (sc lb off 67 cp) ?_
  clear F; intro a F
  refine T_callX (α := SlR) F H kr 27 #[pt gm 0, kyV (tgF nn), kyV (dgF p.l), sc lb off 67 cp] (fun rX => .tuple #[kyV rk, ni 0]) (fun rX => [bk aq2 (arrF .u8 32 pub) 23, bk gm (mtr rX.n) 91, ⟨false, lb, .cells arr tyl fr⟩]) (fun rX => True) (fun w => kr) (fun w H => callsX_putV H (k := 1) rfl ((recoverS_any gm rq5.n (tgF nn) (tgF_lt _) (dgF p.l) (dgF_lt _) K hK lb off cp arr tyl fr harr _ (hW.kept H.kept h00 h01) (H.at_ (k := 1) rfl) (H.at_ (k := 2) rfl) hne).mono (fun _ _ ⟨r, q1, q2⟩ => ⟨r, by rw [q1, hrk]; rfl, q2⟩))) ?_
  clear F H; intro rq6 a v Qrq6 F H
  refine T_k F H (.tuple #[kyV rk, ni 0]) ?_
  clear F; intro a F
  refine T_k F H (kyV rk) ?_
  clear F; intro a F
  refine T_k F H (ni 0) ?_
  clear F; intro a F
  refine T_new F H kr (fun ad => pt ad 0) (ce z8 23) (fun w => kr) ?_
  clear F H; intro aq7 a v F H
  refine T_set F H kr rfl 0 rfl (arrF .u8 32 rk) (S_row 0 rfl 23 (.tmp 11) (.tmp 23) rfl kr (arrF .u8 32 rk) kr (by rw [arrF_size]; kernel_rfl) (by rw [arrF_size]; kernel_rfl) (arrF_one _ _ _)) [bk aq7 (arrF .u8 32 rk) 23, bk aq2 (arrF .u8 32 pub) 23, bk gm (mtr rq6.n) 91, ⟨false, lb, .cells arr tyl fr⟩] rfl ?_
  clear F H; intro a v F H
  refine T_k F H (ni 0) ?_
  clear F; intro a F
  refine wpList_nil ?_
  refine hK3 _ _ ?_
  clear hK3
  try clear K3
  refine C_seqK (fun K8 hK8 => ?_)
  refine C_seqK (fun K9 hK9 => ?_)
  have hrkl : ∀ x ∈ kl rk, x < 256 := by rw [hrk]; exact kl_lt (fun i _ => shaK_lt _ i)
  have hne2 : aq7 ≠ aq2 := H.apart (i := 0) (j := 1) rfl rfl (by decide)
  refine E_region F H (fun β => [(25, ni 0), (26, .bool false), (27, .bool false), (28, sc aq7 0 32 32), (29, sc aq2 0 32 32), (30, .bool false), (31, .bool true), (32, .bool true)]) [25, 26, 27, 28, 29, 30, 31, 32] [] [bk aq7 (arrF .u8 32 rk) 23, bk aq2 (arrF .u8 32 pub) 23, bk gm (mtr rq6.n) 91, ⟨false, lb, .cells arr tyl fr⟩] [0, 1, 2, 3] 2 [] kr kr kr (fun β => rfl) trivial ⟨?_, ?_, ?_, ?_, ?_, ?_, ?_, ?_, trivial⟩ ?_
  · exact E_k 33 (fun β => ni 0) 25 2
  · exact E_k 33 (fun β => .bool false) 26 2
  · exact E_k 33 (fun β => .bool false) 27 2
  · exact E_k 33 (fun β => sc aq7 0 32 32) 28 2
  · exact E_k 33 (fun β => sc aq2 0 32 32) 29 2
  · exact E_call 33 kq (fun β => .bool false) 30 rfl kq 61 (fun β => #[sc aq7 0 32 32, sc aq2 0 32 32]) (fun β w => kr) 2 [] kr rfl (fun β w hk hl hq => same_any (kl rk) hrkl (kl pub) (kl_lt hpub) aq7 0 32 32 (arrF .u8 32 rk) 23 (0, 0) aq2 0 32 32 (arrF .u8 32 pub) 23 (0, 0) (key_at rk) (key_at pub) rfl (by decide) false (same_keys (show (false : Bool) = true ↔ _ from ⟨fun h => Bool.noConfusion h, fun h => absurd h hbb⟩)) _ (hl.at_ (k := 0) rfl) (hl.at_ (k := 1) rfl) hne2)
  · exact E_k 33 (fun β => .bool true) 31 2
  · exact E_k 33 (fun β => .bool true) 32 2
  clear F H; intro β a v Q F H
  replace H : Hp [gm] w [bk aq7 (arrF .u8 32 rk) 23, bk aq2 (arrF .u8 32 pub) 23, bk gm (mtr rq6.n) 91, ⟨false, lb, .cells arr tyl fr⟩] v := H
  replace F : Fm 33 [] [(32, .bool true), (31, .bool true), (30, .bool false), (29, sc aq2 0 32 32), (28, sc aq7 0 32 32), (27, .bool false), (26, .bool false), (25, ni 0), (12, ni 0), (11, pt aq7 0), (24, ni 0), (23, kyV rk), (13, .tuple #[kyV rk, ni 0]), (22, .tuple #[kyV rk, ni 0]), (21, sc lb off 67 cp), (20, kyV (dgF p.l)), (19, .slice p.ad p.n p.c), (18, pt gm 0), (17, kyV (tgF nn)), (16, nw nn), (15, pt gm 0), (14, pt gm 0), (10, ni 0), (6, pt aq2 0), (0, pt gm 0), (1, kyV pub), (2, nw nn), (3, .slice p.ad p.n p.c), (4, sc lb off 67 cp)] a := F.weak _ (subL_of kr)
  clear Q
  refine ?_
  refine hK9 _ _ ?_
  clear hK9
  try clear K9
  refine C_if F true rfl rfl ?_
  refine C_seqK (fun K10 hK10 => ?_)
  refine C_region ?_
  refine T_k F H (ni 40) ?_
  clear F; intro a F
  refine wpList_nil ?_
  refine hK10 _ _ ?_
  clear hK10
  try clear K10
  refine wp_ret ?_
  repeat (first | with_reducible refine then_ret ?_ | with_reducible refine inB_ret ?_)
  exact C_ret F H (rs := [.tmp 10]) rfl (vs := [ni 40]) (.tmp rfl .nil) (ni 40) rfl ⟨⟨0, 0, [], rq6.n⟩, rfl, trivial, H.kept, H.at_ (k := 2) rfl⟩

set_option maxRecDepth 100000 in
set_option maxHeartbeats 4000000 in
theorem verify_short (gm n : Nat) (pub : Nat → Nat) (nn : Nat) (hnn : nn < 4294967296) (p : SlP) (hbk : ∀ x ∈ p.l, x < 256) (hn : p.l.length = p.n) (h64 : p.n ≤ 1000) (ad : Option Addr) (len cp : Nat) (hlen : len ≠ 67) (w : World) (hrd : RdK [gm] w p) (hW : Laid w) (hm : w.heap[gm]? = some (.cells (mtr n) 91 (0, 0))) : Calls Tryd.prog 31 #[.pointer (some ⟨gm, 0, none⟩), .agg (arrF .u8 32 pub), .int .u32 ((nn : Nat) : Int), .slice p.ad p.n p.c, .slice ad len cp] w fun e w' => ∃ r : SlR, e = .returned (.int .i64 40) ∧ True ∧ Kept [gm] w w' ∧ w'.heap[gm]? = some (.cells (mtr r.n) 91 (0, 0)) := by
  obtain ⟨h00, h01⟩ := hW.apart hm
  refine C_enter Tryd.func31 rfl 33 Tryd.ntmps31 (Nat.le_of_ble_eq_true rfl) (fun a F => ?_)
  have H := Hp.startX hm
  replace F : Fm 33 [] [(0, pt gm 0), (1, kyV pub), (2, nw nn), (3, .slice p.ad p.n p.c), (4, .slice ad len cp)] a := F.weak _ (subL_of kr)
  refine C_seqK (fun K1 hK1 => ?_)
  refine C_region ?_
  refine T_new F H kr (fun ad => pt ad 0) (ce (arrF .u8 32 pub) 23) (fun w => kr) ?_
  clear F H; intro aq2 a v F H
  refine T_k F H (ni 0) ?_
  clear F; intro a F
  refine wpList_nil ?_
  refine hK1 _ _ ?_
  clear hK1
  try clear K1
  refine C_seqK (fun K3 hK3 => ?_)
  refine C_region ?_
  refine T_k F H (pt gm 0) ?_
  clear F; intro a F
  refine T_k F H (pt gm 0) ?_
  clear F; intro a F
  refine T_k F H (nw nn) ?_
  clear F; intro a F
  refine T_callX (α := SlR) F H kr 59 #[pt gm 0, nw nn] (fun rX => kyV (tgF nn)) (fun rX => [bk aq2 (arrF .u8 32 pub) 23, bk gm (mtr rX.n) 91]) (fun rX => True) (fun w => kr) (fun w H => callsX_putV H (k := 1) rfl (stag_any gm n nn hnn _ (hW.kept H.kept h00 h01) (H.at_ (k := 1) rfl))) ?_
  clear F H; intro rq4 a v Qrq4 F H
  refine T_k F H (pt gm 0) ?_
  clear F; intro a F
  refine T_k F H (.slice p.ad p.n p.c) ?_
  clear F; intro a F
  refine T_callX (α := SlR) F H kr 60 #[pt gm 0, .slice p.ad p.n p.c] (fun rX => kyV (dgF p.l)) (fun rX => [bk aq2 (arrF .u8 32 pub) 23, bk gm (mtr rX.n) 91]) (fun rX => True) (fun w => kr) (fun w H => callsX_putV H (k := 1) rfl (sdig_any gm rq4.n p hbk hn h64 _ (hrd.kept H.kept) (hW.kept H.kept h00 h01) (H.at_ (k := 1) rfl))) ?_
  clear F H; intro rq5 a v Qrq5 F H
  refine T_k F H (.slice ad len cp) ?_
  clear F; intro a F
  refine T_call F H kr 27 #[pt gm 0, kyV (tgF nn), kyV (dgF p.l), .slice ad len cp] (.tuple #[kyV zF, ni 40]) (fun w => kr) (recover_no _ _ _ ad len cp hlen _) ?_
  clear F H; intro a v F H
  refine T_k F H (.tuple #[kyV zF, ni 40]) ?_
  clear F; intro a F
  refine T_k F H (kyV zF) ?_
  clear F; intro a F
  refine T_k F H (ni 40) ?_
  clear F; intro a F
  refine T_new F H kr (fun ad => pt ad 0) (ce z8 23) (fun w => kr) ?_
  clear F H; intro aq6 a v F H
  refine T_set F H kr rfl 0 rfl (arrF .u8 32 zF) (S_row 0 rfl 23 (.tmp 11) (.tmp 23) rfl kr (arrF .u8 32 zF) kr (by rw [arrF_size]; kernel_rfl) (by rw [arrF_size]; kernel_rfl) (arrF_one _ _ _)) [bk aq6 (arrF .u8 32 zF) 23, bk aq2 (arrF .u8 32 pub) 23, bk gm (mtr rq5.n) 91] rfl ?_
  clear F H; intro a v F H
  refine T_k F H (ni 40) ?_
  clear F; intro a F
  refine wpList_nil ?_
  refine hK3 _ _ ?_
  clear hK3
  try clear K3
  refine C_seqK (fun K7 hK7 => ?_)
  refine C_seqK (fun K8 hK8 => ?_)
  refine E_region F H (fun β => [(25, ni 40), (26, .bool true), (27, .bool true), (28, undef), (29, undef), (30, undef), (31, undef), (32, .bool true)]) [25, 26, 27, 28, 29, 30, 31, 32] [] [bk aq6 (arrF .u8 32 zF) 23, bk aq2 (arrF .u8 32 pub) 23, bk gm (mtr rq5.n) 91] [0, 1, 2] 2 [] kr kr kr (fun β => rfl) trivial ⟨?_, ?_, ?_, ?_, ?_, ?_, ?_, ?_, trivial⟩ ?_
  · exact E_k 33 (fun β => ni 40) 25 2
  · exact E_k 33 (fun β => .bool true) 26 2
  · exact E_k 33 (fun β => .bool true) 27 2
  · exact E_skip kq 28 rfl kq kr
  · exact E_skip kq 29 rfl kq kr
  · exact E_skip kq 30 rfl kq kr
  · exact E_skip kq 31 rfl kq kr
  · exact E_k 33 (fun β => .bool true) 32 2
  clear F H; intro β a v Q F H
  replace H : Hp [gm] w [bk aq6 (arrF .u8 32 zF) 23, bk aq2 (arrF .u8 32 pub) 23, bk gm (mtr rq5.n) 91] v := H
  replace F : Fm 33 [] [(32, .bool true), (31, undef), (30, undef), (29, undef), (28, undef), (27, .bool true), (26, .bool true), (25, ni 40), (12, ni 40), (11, pt aq6 0), (24, ni 40), (23, kyV zF), (13, .tuple #[kyV zF, ni 40]), (22, .tuple #[kyV zF, ni 40]), (21, .slice ad len cp), (20, kyV (dgF p.l)), (19, .slice p.ad p.n p.c), (18, pt gm 0), (17, kyV (tgF nn)), (16, nw nn), (15, pt gm 0), (14, pt gm 0), (10, ni 0), (6, pt aq2 0), (0, pt gm 0), (1, kyV pub), (2, nw nn), (3, .slice p.ad p.n p.c), (4, .slice ad len cp)] a := F.weak _ (subL_of kr)
  clear Q
  refine ?_
  refine hK8 _ _ ?_
  clear hK8
  try clear K8
  refine C_if F true rfl rfl ?_
  refine C_seqK (fun K9 hK9 => ?_)
  refine C_region ?_
  refine T_k F H (ni 40) ?_
  clear F; intro a F
  refine wpList_nil ?_
  refine hK9 _ _ ?_
  clear hK9
  try clear K9
  refine wp_ret ?_
  repeat (first | with_reducible refine then_ret ?_ | with_reducible refine inB_ret ?_)
  exact C_ret F H (rs := [.tmp 10]) rfl (vs := [ni 40]) (.tmp rfl .nil) (ni 40) rfl ⟨⟨0, 0, [], rq5.n⟩, rfl, trivial, H.kept, H.at_ (k := 2) rfl⟩
end Go.Proofs.YtdejhenkdbjakaaDoor
