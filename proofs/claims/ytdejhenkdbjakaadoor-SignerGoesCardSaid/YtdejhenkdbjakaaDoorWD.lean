/- Walks: a signer's public key, however often it is asked. -/
import Derived.Test.YtdejhenkdbjakaaDoorWC
import Derived.RegionTactic
import Derived.RegionCalls
import Derived.Tactics2
set_option linter.unusedVariables false
set_option linter.unusedSimpArgs false
namespace Go.Proofs.YtdejhenkdbjakaaDoor
open Go Go.RowKit
set_option maxRecDepth 100000 in
set_option maxHeartbeats 4000000 in
theorem slow_any (gm n sg pl : Nat) (seed : Nat → Nat) (hseed : ∀ i, i < 32 → seed i < 256) (tag : Nat → Nat) (ht : ∀ i, i < 32 → tag i < 256) (PK : Nat → Nat) (hPK : shaK (endK tag (pbK seed tag) 67) = PK) (pub : Nat → Nat) (w : World) (hW : Laid w) (hm : w.heap[gm]? = some (.cells (mtr n) 91 (0, 0))) (hs : w.heap[sg]? = some (.cells (sgA gm seed tag pub 0 0) 101 (0, 0))) (hp : w.heap[pl]? = some (.cells #[.pointer (some ⟨sg, 0, none⟩)] 36 (0, 0))) : Calls Tryd.prog 84 #[.pointer (some ⟨sg, 65, none⟩), .func (.func 53) #[] #[.pointer (some ⟨pl, 0, none⟩)]] w fun e w' => ∃ r : SlR, e = .returned (.tuple #[]) ∧ True ∧ Kept [gm, sg] w w' ∧ w'.heap[gm]? = some (.cells (mtr r.n) 91 (0, 0)) ∧ w'.heap[sg]? = some (.cells (sgA gm seed tag PK 1 0) 101 (0, 0)) := by
  obtain ⟨h00, h01⟩ := hW.apart2 hm hs
  have n1 : gm ≠ sg := ne_of_ty hm hs rfl
  have n2 : gm ≠ pl := ne_of_ty hm hp rfl
  have n3 : sg ≠ pl := ne_of_ty hs hp rfl
  have h1 := fun n w => pub1_any gm n sg pl seed hseed tag ht pub 0 1 w
  rw [hPK] at h1
  refine C_enterD Tryd.func84 rfl 21 Tryd.ntmps84 (Nat.le_of_ble_eq_true rfl) (fun a F => ?_)
  have H := Hp.start3 hm hs hp n1 n2 n3
  replace F : Fm 21 [] [(0, pt sg 65), (1, .func (.func 53) #[] #[pt pl 0])] a := F.weak _ (subL_of kr)
  refine C_seqK (fun K1 hK1 => ?_)
  refine C_region ?_
  refine T_k F H (pt sg 65) ?_
  clear F; intro a F
  refine T_k F H (pt sg 65) ?_
  clear F; intro a F
  refine T_k F H (pt sg 66) ?_
  clear F; intro a F
  refine T_callX (α := SlR) F H kr 77 #[pt sg 66] (fun rX => .tuple #[]) (fun rX => [bk gm (mtr n) 91, bk sg (sgA gm seed tag pub 0 1) 101, br pl #[pt sg 0] 36]) (fun rX => True) (fun w => kr) (fun w H => callsX_putV H (k := 1) rfl ((lock_sg gm sg seed tag pub _ (H.at_ (k := 1) rfl)).mono (fun _ _ ⟨q1, q2, q3⟩ => ⟨r0, q1, trivial, q2, q3⟩))) ?_
  clear F H; intro rq2 a v Qrq2 F H
  refine wpList_nil ?_
  refine hK1 _ _ ?_
  clear hK1
  try clear K1
  refine C_seqK (fun K3 hK3 => ?_)
  refine C_region ?_
  refine T_k F H (pt sg 65) ?_
  clear F; intro a F
  refine T_k F H (pt sg 65) ?_
  clear F; intro a F
  refine T_k F H (pt sg 66) ?_
  clear F; intro a F
  refine T_defer F kr { target := .fn (.func 78) #[], args := #[pt sg 66] } (fun w => kr) ?_
  clear F; intro a F
  refine wpList_nil ?_
  refine hK3 _ _ ?_
  clear hK3
  try clear K3
  refine C_seqK (fun K4 hK4 => ?_)
  refine C_region ?_
  refine T_k F H (pt sg 65) ?_
  clear F; intro a F
  refine T_k F H (pt sg 65) ?_
  clear F; intro a F
  refine T_k F H (pt sg 65) ?_
  clear F; intro a F
  refine T_call F H kr 83 #[pt sg 65] (.bool false) (fun w => kr) (load_row sg 65 0 _ (H.at_ (k := 1) rfl) kr) ?_
  clear F H; intro a v F H
  refine T_k F H (.bool true) ?_
  clear F; intro a F
  refine wpList_nil ?_
  refine hK4 _ _ ?_
  clear hK4
  try clear K4
  refine C_if F true rfl rfl ?_
  refine C_seqK (fun K5 hK5 => ?_)
  refine C_region ?_
  refine T_k F H (pt sg 65) ?_
  clear F; intro a F
  refine T_k F H (pt sg 65) ?_
  clear F; intro a F
  refine T_k F H (pt sg 65) ?_
  clear F; intro a F
  refine T_defer F kr { target := .fn (.func 103) #[], args := #[pt sg 65, .bool true] } (fun w => kr) ?_
  clear F; intro a F
  refine wpList_nil ?_
  refine hK5 _ _ ?_
  clear hK5
  try clear K5
  refine C_region ?_
  refine T_k F H (.func (.func 53) #[] #[pt pl 0]) ?_
  clear F; intro a F
  refine T_callX (α := SlR) F H kr 53 #[pt pl 0] (fun rX => .tuple #[]) (fun rX => [bk gm (mtr rX.n) 91, bk sg (sgA gm seed tag PK 0 1) 101, br pl #[pt sg 0] 36]) (fun rX => True) (fun w => kr) (fun w H => callsX_put2 H (k := 0) (k2 := 1) rfl rfl (by decide) (h1 n _ (hW.kept H.kept h00 h01) (H.at_ (k := 0) rfl) (H.at_ (k := 1) rfl) (H.at_ (k := 2) rfl))) ?_
  clear F H; intro rq6 a v Qrq6 F H
  refine wpList_nil ?_
  show Leaves _ _ a.tmps _ a.defers .returning v
  rw [F.df]
  have hgm := H.at_ (k := 0) rfl
  have hbk := H.at_ (k := 1) rfl
  have hK := H.kept
  have hne := H.apart (i := 0) (j := 1) rfl rfl (by decide)
  clear F H
  have hdone := sg_done gm seed tag PK
  have c65 : (sgA gm seed tag PK 0 1)[65]? = some (.int .u32 0) := kr
  have c66 : ((sgA gm seed tag PK 0 1).setIfInBounds 65 (.int .u32 1))[66]? = some (.int .i32 1) := kr
  generalize sgA gm seed tag PK 0 1 = C at hbk hdone c65 c66
  refine leaves_cons (f := 103) (args := #[pt sg 65, .bool true]) (by simp) kr ?_
  refine (store_deferred ⟨sg, 65, none⟩ (.int .u32 0) .returning v (by rw [cell_of_row v sg 65 C 101 (0, 0) hbk]; exact c65) (frozen_of_row v sg 65 C 101 hbk)).mono ?_
  rintro e u' v1 ⟨rfl, rfl, hv1⟩
  have hb1 : v1.heap[sg]? = some (ce (C.setIfInBounds 65 (.int .u32 1)) 101) := by subst hv1; exact heap_setCell_same v.drew sg 65 C 101 _ hbk
  have hk1 : Kept [sg] v v1 := by subst hv1; exact ⟨rfl, rfl, rfl, by simp [World.setCell], fun k _ hk => heap_setCell_other _ _ _ _ (by simpa using hk)⟩
  clear hv1
  refine leaves_cons (f := 78) (args := #[pt sg 66]) (by simp [settle]) kr ?_
  refine (unlock_deferred ⟨sg, 66, none⟩ _ v1 (by rw [cell_of_row v1 sg 66 _ 101 (0, 0) hb1]; exact c66) (frozen_of_row v1 sg 66 _ 101 hb1)).mono ?_
  rintro e u' v2 ⟨rfl, rfl, hv2⟩
  have hb2 : v2.heap[sg]? = some (ce ((C.setIfInBounds 65 (.int .u32 1)).setIfInBounds 66 (.int .i32 0)) 101) := by subst hv2; exact heap_setCell_same v1 sg 66 _ 101 _ hb1
  have hk2 : Kept [sg] v1 v2 := by subst hv2; exact ⟨rfl, rfl, rfl, by simp [World.setCell], fun k _ hk => heap_setCell_other _ _ _ _ (by simpa using hk)⟩
  have hk12 := hk1.trans (fun y hy => .inr hy) hk2
  refine ⟨.tuple #[], results_none rfl _ _ _, ⟨0, 0, [], rq6.n⟩, rfl, trivial, hK.trans (fun y hy => .inr (by simp only [List.mem_singleton] at hy; subst hy; simp)) hk12, ?_, ?_⟩
  · exact (hk12.block _ (heap_in hgm) (by simpa using hne)).trans hgm
  · rw [hb2, hdone]

set_option maxRecDepth 100000 in
set_option maxHeartbeats 4000000 in
theorem do_first (gm n sg pl : Nat) (seed : Nat → Nat) (hseed : ∀ i, i < 32 → seed i < 256) (tag : Nat → Nat) (ht : ∀ i, i < 32 → tag i < 256) (PK : Nat → Nat) (hPK : shaK (endK tag (pbK seed tag) 67) = PK) (pub : Nat → Nat) (w : World) (hW : Laid w) (hm : w.heap[gm]? = some (.cells (mtr n) 91 (0, 0))) (hs : w.heap[sg]? = some (.cells (sgA gm seed tag pub 0 0) 101 (0, 0))) (hp : w.heap[pl]? = some (.cells #[.pointer (some ⟨sg, 0, none⟩)] 36 (0, 0))) : Calls Tryd.prog 52 #[.pointer (some ⟨sg, 65, none⟩), .func (.func 53) #[] #[.pointer (some ⟨pl, 0, none⟩)]] w fun e w' => ∃ r : SlR, e = .returned (.tuple #[]) ∧ True ∧ Kept [gm, sg] w w' ∧ w'.heap[gm]? = some (.cells (mtr r.n) 91 (0, 0)) ∧ w'.heap[sg]? = some (.cells (sgA gm seed tag PK 1 0) 101 (0, 0)) := by
  obtain ⟨h00, h01⟩ := hW.apart2 hm hs
  have n1 : gm ≠ sg := ne_of_ty hm hs rfl
  have n2 : gm ≠ pl := ne_of_ty hm hp rfl
  have n3 : sg ≠ pl := ne_of_ty hs hp rfl
  refine C_enter Tryd.func52 rfl 12 Tryd.ntmps52 (Nat.le_of_ble_eq_true rfl) (fun a F => ?_)
  have H := Hp.start3 hm hs hp n1 n2 n3
  replace F : Fm 12 [] [(0, pt sg 65), (1, .func (.func 53) #[] #[pt pl 0])] a := F.weak _ (subL_of kr)
  refine C_seqK (fun K1 hK1 => ?_)
  refine C_region ?_
  refine T_k F H (pt sg 65) ?_
  clear F; intro a F
  refine T_k F H (pt sg 65) ?_
  clear F; intro a F
  refine T_k F H (pt sg 65) ?_
  clear F; intro a F
  refine T_call F H kr 83 #[pt sg 65] (.bool false) (fun w => kr) (load_row sg 65 0 _ (H.at_ (k := 1) rfl) kr) ?_
  clear F H; intro a v F H
  refine T_k F H (.bool true) ?_
  clear F; intro a F
  refine wpList_nil ?_
  refine hK1 _ _ ?_
  clear hK1
  try clear K1
  refine C_if F true rfl rfl ?_
  refine C_region ?_
  refine T_k F H (pt sg 65) ?_
  clear F; intro a F
  refine T_k F H (.func (.func 53) #[] #[pt pl 0]) ?_
  clear F; intro a F
  refine T_callX (α := SlR) F H kr 84 #[pt sg 65, .func (.func 53) #[] #[pt pl 0]] (fun rX => .tuple #[]) (fun rX => [bk gm (mtr rX.n) 91, bk sg (sgA gm seed tag PK 1 0) 101, br pl #[pt sg 0] 36]) (fun rX => True) (fun w => kr) (fun w H => callsX_put2 H (k := 0) (k2 := 1) rfl rfl (by decide) (slow_any gm n sg pl seed hseed tag ht PK hPK pub _ (hW.kept H.kept h00 h01) (H.at_ (k := 0) rfl) (H.at_ (k := 1) rfl) (H.at_ (k := 2) rfl))) ?_
  clear F H; intro rq2 a v Qrq2 F H
  refine wpList_nil ?_
  exact C_end F rfl ⟨⟨0, 0, [], rq2.n⟩, rfl, trivial, H.kept, H.at_ (k := 0) rfl, H.at_ (k := 1) rfl⟩

set_option maxRecDepth 100000 in
set_option maxHeartbeats 4000000 in
theorem do_again (gm n sg pl : Nat) (seed : Nat → Nat) (hseed : ∀ i, i < 32 → seed i < 256) (tag : Nat → Nat) (ht : ∀ i, i < 32 → tag i < 256) (PK : Nat → Nat) (hPK : shaK (endK tag (pbK seed tag) 67) = PK) (pub : Nat → Nat) (w : World) (hW : Laid w) (hm : w.heap[gm]? = some (.cells (mtr n) 91 (0, 0))) (hs : w.heap[sg]? = some (.cells (sgA gm seed tag PK 1 0) 101 (0, 0))) (hp : w.heap[pl]? = some (.cells #[.pointer (some ⟨sg, 0, none⟩)] 36 (0, 0))) : Calls Tryd.prog 52 #[.pointer (some ⟨sg, 65, none⟩), .func (.func 53) #[] #[.pointer (some ⟨pl, 0, none⟩)]] w fun e w' => ∃ r : SlR, e = .returned (.tuple #[]) ∧ True ∧ Kept [gm, sg] w w' ∧ w'.heap[gm]? = some (.cells (mtr r.n) 91 (0, 0)) ∧ w'.heap[sg]? = some (.cells (sgA gm seed tag PK 1 0) 101 (0, 0)) := by
  obtain ⟨h00, h01⟩ := hW.apart2 hm hs
  have n1 : gm ≠ sg := ne_of_ty hm hs rfl
  have n2 : gm ≠ pl := ne_of_ty hm hp rfl
  have n3 : sg ≠ pl := ne_of_ty hs hp rfl
  refine C_enter Tryd.func52 rfl 12 Tryd.ntmps52 (Nat.le_of_ble_eq_true rfl) (fun a F => ?_)
  have H := Hp.start3 hm hs hp n1 n2 n3
  replace F : Fm 12 [] [(0, pt sg 65), (1, .func (.func 53) #[] #[pt pl 0])] a := F.weak _ (subL_of kr)
  refine C_seqK (fun K1 hK1 => ?_)
  refine C_region ?_
  refine T_k F H (pt sg 65) ?_
  clear F; intro a F
  refine T_k F H (pt sg 65) ?_
  clear F; intro a F
  refine T_k F H (pt sg 65) ?_
  clear F; intro a F
  refine T_call F H kr 83 #[pt sg 65] (.bool true) (fun w => kr) (load_row sg 65 1 _ (H.at_ (k := 1) rfl) kr) ?_
  clear F H; intro a v F H
  refine T_k F H (.bool false) ?_
  clear F; intro a F
  refine wpList_nil ?_
  refine hK1 _ _ ?_
  clear hK1
  try clear K1
  refine C_if F false rfl rfl ?_
  refine wp_skip ?_
  exact C_end F rfl ⟨⟨0, 0, [], n⟩, rfl, trivial, H.kept, H.at_ (k := 0) rfl, H.at_ (k := 1) rfl⟩

theorem Hp.startGS {w : World} {gm sg : Nat} {om os : Obj} (hm : w.heap[gm]? = some om) (hs : w.heap[sg]? = some os) (h1 : gm ≠ sg) : Hp [gm, sg] w [⟨true, gm, om⟩, ⟨true, sg, os⟩] w :=
  ⟨Kept.refl _ _, (fun p hq => by
    simp only [List.mem_cons, List.not_mem_nil, or_false] at hq
    rcases hq with rfl | rfl
    · exact hm
    · exact hs), (fun p hq ho => by
    simp only [List.mem_cons, List.not_mem_nil, or_false] at hq
    rcases hq with rfl | rfl
    · exact .inr (by simp)
    · exact .inr (by simp)), List.pairwise_cons.2 ⟨(fun q hq => by simp only [List.mem_singleton] at hq; subst hq; exact h1), List.pairwise_singleton _ _⟩⟩

set_option maxRecDepth 100000 in
set_option maxHeartbeats 4000000 in
theorem pubP_first (gm n sg : Nat) (seed : Nat → Nat) (hseed : ∀ i, i < 32 → seed i < 256) (tag : Nat → Nat) (ht : ∀ i, i < 32 → tag i < 256) (PK : Nat → Nat) (hPK : shaK (endK tag (pbK seed tag) 67) = PK) (pub : Nat → Nat) (w : World) (hW : Laid w) (hm : w.heap[gm]? = some (.cells (mtr n) 91 (0, 0))) (hs : w.heap[sg]? = some (.cells (sgA gm seed tag pub 0 0) 101 (0, 0))) : Calls Tryd.prog 22 #[.pointer (some ⟨sg, 0, none⟩)] w fun e w' => ∃ r : SlR, e = .returned (.agg (arrF .u8 32 PK)) ∧ True ∧ Kept [gm, sg] w w' ∧ w'.heap[gm]? = some (.cells (mtr r.n) 91 (0, 0)) ∧ w'.heap[sg]? = some (.cells (sgA gm seed tag PK 1 0) 101 (0, 0)) := by
  obtain ⟨h00, h01⟩ := hW.apart2 hm hs
  have n1 : gm ≠ sg := ne_of_ty hm hs rfl
  refine C_enter Tryd.func22 rfl 12 Tryd.ntmps22 (Nat.le_of_ble_eq_true rfl) (fun a F => ?_)
  have H := Hp.startGS hm hs n1
  replace F : Fm 12 [] [(0, pt sg 0)] a := F.weak _ (subL_of kr)
  refine C_seqK (fun K1 hK1 => ?_)
  refine C_region ?_
  refine T_new F H kr (fun ad => pt ad 0) (ce #[pt sg 0] 36) (fun w => kr) ?_
  clear F H; intro aq2 a v F H
  refine T_new F H kr (fun ad => pt ad 0) (ce z8 23) (fun w => kr) ?_
  clear F H; intro aq3 a v F H
  refine wpList_nil ?_
  refine hK1 _ _ ?_
  clear hK1
  try clear K1
  refine C_seqK (fun K4 hK4 => ?_)
  refine C_region ?_
  refine T_val F H kr (pt sg 0) (R_cell (own := true) (g := aq2) (all := #[pt sg 0]) (t := 36) (fr := (0, 0)) 1 kr 36 (.tmp 1) rfl 0 kr (pt sg 0) kr _ Tryd.underlying36 rfl) ?_
  clear F; intro a F
  refine T_k F H (pt sg 0) ?_
  clear F; intro a F
  refine T_k F H (pt sg 65) ?_
  clear F; intro a F
  refine T_k F H (.func (.func 53) #[] #[pt aq2 0]) ?_
  clear F; intro a F
  refine T_callX (α := SlR) F H kr 52 #[pt sg 65, .func (.func 53) #[] #[pt aq2 0]] (fun rX => .tuple #[]) (fun rX => [bk aq3 z8 23, bk aq2 #[pt sg 0] 36, bk gm (mtr rX.n) 91, bk sg (sgA gm seed tag PK 1 0) 101]) (fun rX => True) (fun w => kr) (fun w H => callsX_put2 H (k := 2) (k2 := 3) rfl rfl (by decide) (do_first gm n sg aq2 seed hseed tag ht PK hPK pub _ (hW.kept H.kept h00 h01) (H.at_ (k := 2) rfl) (H.at_ (k := 3) rfl) (H.at_ (k := 1) rfl))) ?_
  clear F H; intro rq5 a v Qrq5 F H
  refine wpList_nil ?_
  refine hK4 _ _ ?_
  clear hK4
  try clear K4
  refine C_seqK (fun K6 hK6 => ?_)
  refine C_region ?_
  refine T_val F H kr (pt sg 0) (R_cell (own := true) (g := aq2) (all := #[pt sg 0]) (t := 36) (fr := (0, 0)) 1 kr 36 (.tmp 1) rfl 0 kr (pt sg 0) kr _ Tryd.underlying36 rfl) ?_
  clear F; intro a F
  refine T_k F H (pt sg 0) ?_
  clear F; intro a F
  refine T_k F H (pt sg 68) ?_
  clear F; intro a F
  refine T_val F H kr (kyV PK) (R_load (own := true) (g := sg) (all := (sgA gm seed tag PK 1 0)) (t := 101) (fr := (0, 0)) 3 kr 23 (.tmp 10) rfl 68 kr (arrF .u8 32 PK) (part_ext kr) _ Tryd.underlying23 rfl kr) ?_
  clear F; intro a F
  refine T_set F H kr rfl 0 rfl (arrF .u8 32 PK) (S_row 0 rfl 23 (.tmp 2) (.tmp 11) rfl kr (arrF .u8 32 PK) kr (by rw [arrF_size]; kernel_rfl) (by rw [arrF_size]; kernel_rfl) (arrF_one _ _ _)) [bk aq3 (arrF .u8 32 PK) 23, bk aq2 #[pt sg 0] 36, bk gm (mtr rq5.n) 91, bk sg (sgA gm seed tag PK 1 0) 101] rfl ?_
  clear F H; intro a v F H
  refine wpList_nil ?_
  refine hK6 _ _ ?_
  clear hK6
  try clear K6
  refine wp_ret ?_
  exact C_ret F H (rs := [.cell 2 23]) rfl (vs := [kyV PK]) (.row 0 rfl rfl _ Tryd.underlying23 rfl kr .nil) (kyV PK) rfl ⟨⟨0, 0, [], rq5.n⟩, rfl, trivial, H.kept, H.at_ (k := 2) rfl, H.at_ (k := 3) rfl⟩

set_option maxRecDepth 100000 in
set_option maxHeartbeats 4000000 in
theorem pubP_again (gm n sg : Nat) (seed : Nat → Nat) (hseed : ∀ i, i < 32 → seed i < 256) (tag : Nat → Nat) (ht : ∀ i, i < 32 → tag i < 256) (PK : Nat → Nat) (hPK : shaK (endK tag (pbK seed tag) 67) = PK) (pub : Nat → Nat) (w : World) (hW : Laid w) (hm : w.heap[gm]? = some (.cells (mtr n) 91 (0, 0))) (hs : w.heap[sg]? = some (.cells (sgA gm seed tag PK 1 0) 101 (0, 0))) : Calls Tryd.prog 22 #[.pointer (some ⟨sg, 0, none⟩)] w fun e w' => ∃ r : SlR, e = .returned (.agg (arrF .u8 32 PK)) ∧ True ∧ Kept [gm, sg] w w' ∧ w'.heap[gm]? = some (.cells (mtr r.n) 91 (0, 0)) ∧ w'.heap[sg]? = some (.cells (sgA gm seed tag PK 1 0) 101 (0, 0)) := by
  obtain ⟨h00, h01⟩ := hW.apart2 hm hs
  have n1 : gm ≠ sg := ne_of_ty hm hs rfl
  refine C_enter Tryd.func22 rfl 12 Tryd.ntmps22 (Nat.le_of_ble_eq_true rfl) (fun a F => ?_)
  have H := Hp.startGS hm hs n1
  replace F : Fm 12 [] [(0, pt sg 0)] a := F.weak _ (subL_of kr)
  refine C_seqK (fun K1 hK1 => ?_)
  refine C_region ?_
  refine T_new F H kr (fun ad => pt ad 0) (ce #[pt sg 0] 36) (fun w => kr) ?_
  clear F H; intro aq2 a v F H
  refine T_new F H kr (fun ad => pt ad 0) (ce z8 23) (fun w => kr) ?_
  clear F H; intro aq3 a v F H
  refine wpList_nil ?_
  refine hK1 _ _ ?_
  clear hK1
  try clear K1
  refine C_seqK (fun K4 hK4 => ?_)
  refine C_region ?_
  refine T_val F H kr (pt sg 0) (R_cell (own := true) (g := aq2) (all := #[pt sg 0]) (t := 36) (fr := (0, 0)) 1 kr 36 (.tmp 1) rfl 0 kr (pt sg 0) kr _ Tryd.underlying36 rfl) ?_
  clear F; intro a F
  refine T_k F H (pt sg 0) ?_
  clear F; intro a F
  refine T_k F H (pt sg 65) ?_
  clear F; intro a F
  refine T_k F H (.func (.func 53) #[] #[pt aq2 0]) ?_
  clear F; intro a F
  refine T_callX (α := SlR) F H kr 52 #[pt sg 65, .func (.func 53) #[] #[pt aq2 0]] (fun rX => .tuple #[]) (fun rX => [bk aq3 z8 23, bk aq2 #[pt sg 0] 36, bk gm (mtr rX.n) 91, bk sg (sgA gm seed tag PK 1 0) 101]) (fun rX => True) (fun w => kr) (fun w H => callsX_put2 H (k := 2) (k2 := 3) rfl rfl (by decide) (do_again gm n sg aq2 seed hseed tag ht PK hPK pub _ (hW.kept H.kept h00 h01) (H.at_ (k := 2) rfl) (H.at_ (k := 3) rfl) (H.at_ (k := 1) rfl))) ?_
  clear F H; intro rq5 a v Qrq5 F H
  refine wpList_nil ?_
  refine hK4 _ _ ?_
  clear hK4
  try clear K4
  refine C_seqK (fun K6 hK6 => ?_)
  refine C_region ?_
  refine T_val F H kr (pt sg 0) (R_cell (own := true) (g := aq2) (all := #[pt sg 0]) (t := 36) (fr := (0, 0)) 1 kr 36 (.tmp 1) rfl 0 kr (pt sg 0) kr _ Tryd.underlying36 rfl) ?_
  clear F; intro a F
  refine T_k F H (pt sg 0) ?_
  clear F; intro a F
  refine T_k F H (pt sg 68) ?_
  clear F; intro a F
  refine T_val F H kr (kyV PK) (R_load (own := true) (g := sg) (all := (sgA gm seed tag PK 1 0)) (t := 101) (fr := (0, 0)) 3 kr 23 (.tmp 10) rfl 68 kr (arrF .u8 32 PK) (part_ext kr) _ Tryd.underlying23 rfl kr) ?_
  clear F; intro a F
  refine T_set F H kr rfl 0 rfl (arrF .u8 32 PK) (S_row 0 rfl 23 (.tmp 2) (.tmp 11) rfl kr (arrF .u8 32 PK) kr (by rw [arrF_size]; kernel_rfl) (by rw [arrF_size]; kernel_rfl) (arrF_one _ _ _)) [bk aq3 (arrF .u8 32 PK) 23, bk aq2 #[pt sg 0] 36, bk gm (mtr rq5.n) 91, bk sg (sgA gm seed tag PK 1 0) 101] rfl ?_
  clear F H; intro a v F H
  refine wpList_nil ?_
  refine hK6 _ _ ?_
  clear hK6
  try clear K6
  refine wp_ret ?_
  exact C_ret F H (rs := [.cell 2 23]) rfl (vs := [kyV PK]) (.row 0 rfl rfl _ Tryd.underlying23 rfl kr .nil) (kyV PK) rfl ⟨⟨0, 0, [], rq5.n⟩, rfl, trivial, H.kept, H.at_ (k := 2) rfl, H.at_ (k := 3) rfl⟩
end Go.Proofs.YtdejhenkdbjakaaDoor
