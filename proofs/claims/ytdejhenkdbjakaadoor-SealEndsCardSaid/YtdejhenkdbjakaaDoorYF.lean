/- Walks: the iterator over the stream's blocks. -/
import Derived.Test.YtdejhenkdbjakaaDoorYE
set_option linter.unusedVariables false
set_option linter.unusedSimpArgs false
namespace Go.Proofs.YtdejhenkdbjakaaDoor
open Go Go.RowKit
theorem thenN {K : Act → World → Prop} {Q : Exit → Act → World → Prop} {a : Act} {w : World} (h : K a w) : Exit.then K Q .normal a w := h
theorem C_regionYj {P : Program} {Q : Exit → Act → World → Prop} {a : Act} {w : World} {id : Nat} (j : Nat) {lo : List Oper} (hno : ¬ LetsOut Q) (h : wpList P lo.toArray (Exit.then (fun a w => wpListIn Fence.wide 1 P lo.toArray Q (lo.drop j) a w) Q) (lo.take j) a w) (hnd : (lo.take j).all noDefer = true) : (Code.region id lo.toArray false).wp P Q a w :=
  C_regionY (m := 1) (lo.take j) (lo.drop j) (List.take_append_drop j lo).symm hno hnd h

set_option maxRecDepth 100000 in
set_option maxHeartbeats 4000000 in
theorem mx_iter (key : Nat → Nat) (hkey : ∀ i, key i < 256) (nc : Nat → Nat) (hnc : ∀ i, nc i < 256) (tl : List Nat) (htl : ∀ x ∈ tl, x < 256) (ga oa n cp : Nat) (arr : Array Value) (tyl : TypeId) (fr : Nat × Nat) (harr : ∀ j, j < n → arr[oa + j]? = some (.int .u8 ((tl.getD j 0 : Nat) : Int))) (h0 : 0 < n) (hn : n ≤ 4000) (hcp : n ≤ cp) (w0 : World) (hW : LaidS w0) (ob tb kb cb nbk fn D lp : Nat) (aM : Act) (FM : Fm 34 [] [(10, .pointer (some ⟨ob, 0, none⟩)), (7, .pointer (some ⟨tb, 0, none⟩))] aM) (w : World) (H : Hp [] w0 [⟨true, lp, mxRec fn aM.tmps D .ready none⟩, ⟨true, D, .deferred (some [])⟩, ⟨true, ob, .cells #[.slice none 0 0] 54 (0, 0)⟩, ⟨true, tb, .cells #[.slice (some ⟨ga, oa, none⟩) n cp] 54 (0, 0)⟩, ⟨true, kb, .cells (arrF .u8 32 key) 23 (0, 0)⟩, ⟨true, cb, .cells #[.int .u32 ((0 : Nat) : Int)] 53 (0, 0)⟩, ⟨true, nbk, .cells (arrF .u8 12 nc) 121 (0, 0)⟩, ⟨false, ga, .cells arr tyl fr⟩] w) : Calls Tryd.prog 122 (#[.func (.yield lp) #[] #[]] ++ #[.pointer (some ⟨kb, 0, none⟩), .pointer (some ⟨cb, 0, none⟩), .pointer (some ⟨nbk, 0, none⟩)]) w fun e w' => ∃ (u : Value) (r : SlR), e = .returned u ∧ Own (oct (mxP key nc tl n)) r.rest n r.cap 1 ∧ Hp [] w0 [⟨true, lp, mxRec fn aM.tmps D .done (some (.exit 0))⟩, ⟨true, D, .deferred (some [])⟩, ⟨true, ob, .cells #[.slice (some ⟨r.g, 0, none⟩) n r.cap] 54 (0, 0)⟩, ⟨true, r.g, .cells (sl (oct (mxP key nc tl n)) r.rest) 5 (0, 0)⟩, ⟨false, ga, .cells arr tyl fr⟩] w' := by
  refine C_enter Tryd.func122 rfl 13 Tryd.ntmps122 (Nat.le_of_ble_eq_true rfl) (fun a F => ?_)
  replace F : Fm 13 [] [(0, .func (.yield lp) #[] #[]), (1, pt kb 0), (2, pt cb 0), (3, pt nbk 0)] a := F.weak _ (subL_of kr)
  refine wp_block ?_
  refine C_loop (fun m a v => ∃ k, k + m = 64 ∧ 64 * k < n ∧ Fm 13 [] [(0, .func (.yield lp) #[] #[]), (1, pt kb 0), (2, pt cb 0), (3, pt nbk 0)] a ∧ ((k = 0 ∧ Hp [] w0 [⟨true, lp, mxRec fn aM.tmps D .ready none⟩, ⟨true, D, .deferred (some [])⟩, bk ob #[.slice none 0 0] 54, bk tb #[sc ga oa n cp] 54, bk kb (arrF .u8 32 key) 23, bk cb #[nw 0] 53, bk nbk (arrF .u8 12 nc) 121, ⟨false, ga, .cells arr tyl fr⟩] v) ∨ (1 ≤ k ∧ ∃ r : SlR, Own (oct (mxP key nc tl ((64 * k)))) r.rest ((64 * k)) r.cap 1 ∧ Hp [] w0 [⟨true, lp, mxRec fn aM.tmps D .ready none⟩, ⟨true, D, .deferred (some [])⟩, bk ob #[sc r.g 0 (64 * k) r.cap] 54, bk r.g (sl (oct (mxP key nc tl ((64 * k)))) r.rest) 5, bk tb #[sc ga oa n cp] 54, bk kb (arrF .u8 32 key) 23, bk cb #[nw k] 53, bk nbk (arrF .u8 12 nc) 121, ⟨false, ga, .cells arr tyl fr⟩] v))) 64 ⟨0, by omega, by omega, F, .inl ⟨rfl, H⟩⟩ ?_
  clear F H
  intro m a v ⟨k, hm, hk, F, hS⟩
  rcases hS with ⟨rfl, H⟩ | ⟨hk1, r, hO, H⟩
  · refine C_seqK (fun K1 hK1 => ?_)
    refine C_seqK (fun K2 hK2 => ?_)
    refine C_regionYj 5 ?_ ?_ ?_
    rotate_left 2
    · exact kr
    · rintro ⟨_, _, _, _, h, _⟩; cases h
    refine T_k F H (.func (.yield lp) #[] #[]) ?_
    clear F; intro a F
    refine T_val F H kr (kyV key) (R_load (own := true) (g := kb) (all := (arrF .u8 32 key)) (t := 23) (fr := (0, 0)) 4 kr 23 (.tmp 1) rfl 0 kr (arrF .u8 32 key) (part_all _) _ Tryd.underlying23 rfl (by rw [arrF_size]; kernel_rfl)) ?_
    clear F; intro a F
    refine T_val F H kr (nw 0) (R_cell (own := true) (g := cb) (all := #[nw 0]) (t := 53) (fr := (0, 0)) 5 kr 53 (.tmp 2) rfl 0 kr (nw 0) kr _ Tryd.underlying53 rfl) ?_
    clear F; intro a F
    refine T_val F H kr (.agg (arrF .u8 12 nc)) (R_load (own := true) (g := nbk) (all := (arrF .u8 12 nc)) (t := 121) (fr := (0, 0)) 6 kr 121 (.tmp 3) rfl 0 kr (arrF .u8 12 nc) (part_all _) _ Tryd.underlying121 rfl (by rw [arrF_size]; kernel_rfl)) ?_
    clear F; intro a F
    refine T_call F H kr 123 #[kyV key, nw 0, .agg (arrF .u8 12 nc)] (.agg (arrF .u8 64 (ccF key 0 nc))) (fun w => kr) (cblock_any key hkey 0 (by omega) nc hnc _ (hW.keptS H.kept (fun _ _ => List.not_mem_nil))) ?_
    clear F H; intro a v F H
    refine wpList_nil ?_
    refine thenN (T_yield F H kr (x := (.tmp 5)) (y := (.tmp 9)) rfl (l := lp) (k := 0) kr (val := .agg (arrF .u8 64 (ccF key 0 nc))) kr rfl (t := 19) rfl (mx_first key hkey nc hnc tl htl ga oa n cp arr tyl fr harr h0 hn hcp [] w0 0 ob tb kb cb nbk fn D lp aM FM aM.tmps _ H) (fun b a v hR F => ?_))
    clear H
    refine wpListIn_nil ?_
    refine hK2 _ _ ?_
    clear hK2
    try clear K2
    rcases hR with ⟨rfl, hlt, r1, hO1, H⟩ | ⟨rfl, hle, r1, hO1, H⟩
    · replace F : Fm 13 [] [(10, .bool true), (0, .func (.yield lp) #[] #[]), (1, pt kb 0), (2, pt cb 0), (3, pt nbk 0)] a := F.weak _ (subL_of kr)
      refine C_if F true rfl rfl ?_
      refine wp_skip ?_
      refine hK1 _ _ ?_
      clear hK1
      try clear K1
      refine wp_block ?_
      refine C_region ?_
      refine T_val F H kr (nw 0) (R_cell (own := true) (g := cb) (all := #[nw 0]) (t := 53) (fr := (0, 0)) 6 kr 53 (.tmp 2) rfl 0 kr (nw 0) kr _ Tryd.underlying53 rfl) ?_
      clear F; intro a F
      refine T_val F H kr (nw (add32 (0) (1))) (fun w _ => R_bin (x := (.tmp 11)) (y := (.const (.int .u32 1))) rfl (k := .u32) (a := ((0 : Nat) : Int)) (b := ((1 : Nat) : Int)) kr kr (i_add32 (a := 0) (b := 1)) w) ?_
      clear F; intro a F
      refine T_set F H kr rfl 6 rfl _ (S_cell 6 rfl 53 (.tmp 2) (.tmp 12) rfl 0 kr (nw (add32 (0) (1))) kr rfl (Nat.le_of_ble_eq_true rfl) _ Tryd.underlying53 rfl kr) [⟨true, lp, mxRec fn aM.tmps D .ready none⟩, ⟨true, D, .deferred (some [])⟩, bk ob #[sc r1.g 0 (64 * 1) r1.cap] 54, bk r1.g (sl (oct (mxP key nc tl ((64 * 1)))) r1.rest) 5, bk tb #[sc ga oa n cp] 54, bk kb (arrF .u8 32 key) 23, bk cb #[nw (add32 (0) (1))] 53, bk nbk (arrF .u8 12 nc) 121, ⟨false, ga, .cells arr tyl fr⟩] rfl ?_
      clear F H; intro a v F H
      refine wpList_nil ?_
      refine ⟨m - 1, by omega, 1, by omega, by omega, ?_, .inr ⟨by omega, r1, hO1, ?_⟩⟩
      · exact F.weak _ (subL_of kr)
      · have hc1 : add32 (0) (1) = 1 := by unfold add32; omega
        rw [hc1] at H
        exact H
    · replace F : Fm 13 [] [(10, .bool false), (0, .func (.yield lp) #[] #[]), (1, pt kb 0), (2, pt cb 0), (3, pt nbk 0)] a := F.weak _ (subL_of kr)
      refine C_if F false rfl rfl ?_
      refine wp_exit ?_
      exact ⟨F.df, _, results_none rfl _ _ _, _, r1, rfl, hO1, H⟩
  · refine C_seqK (fun K1 hK1 => ?_)
    refine C_seqK (fun K2 hK2 => ?_)
    refine C_regionYj 5 ?_ ?_ ?_
    rotate_left 2
    · exact kr
    · rintro ⟨_, _, _, _, h, _⟩; cases h
    refine T_k F H (.func (.yield lp) #[] #[]) ?_
    clear F; intro a F
    refine T_val F H kr (kyV key) (R_load (own := true) (g := kb) (all := (arrF .u8 32 key)) (t := 23) (fr := (0, 0)) 5 kr 23 (.tmp 1) rfl 0 kr (arrF .u8 32 key) (part_all _) _ Tryd.underlying23 rfl (by rw [arrF_size]; kernel_rfl)) ?_
    clear F; intro a F
    refine T_val F H kr (nw k) (R_cell (own := true) (g := cb) (all := #[nw k]) (t := 53) (fr := (0, 0)) 6 kr 53 (.tmp 2) rfl 0 kr (nw k) kr _ Tryd.underlying53 rfl) ?_
    clear F; intro a F
    refine T_val F H kr (.agg (arrF .u8 12 nc)) (R_load (own := true) (g := nbk) (all := (arrF .u8 12 nc)) (t := 121) (fr := (0, 0)) 7 kr 121 (.tmp 3) rfl 0 kr (arrF .u8 12 nc) (part_all _) _ Tryd.underlying121 rfl (by rw [arrF_size]; kernel_rfl)) ?_
    clear F; intro a F
    refine T_call F H kr 123 #[kyV key, nw k, .agg (arrF .u8 12 nc)] (.agg (arrF .u8 64 (ccF key k nc))) (fun w => kr) (cblock_any key hkey k (by omega) nc hnc _ (hW.keptS H.kept (fun _ _ => List.not_mem_nil))) ?_
    clear F H; intro a v F H
    refine wpList_nil ?_
    refine thenN (T_yield F H kr (x := (.tmp 5)) (y := (.tmp 9)) rfl (l := lp) (k := 0) kr (val := .agg (arrF .u8 64 (ccF key k nc))) kr rfl (t := 19) rfl (mx_later key hkey nc hnc tl htl ga oa n cp arr tyl fr harr h0 hn hcp [] w0 0 ob tb kb cb nbk fn D lp aM FM aM.tmps k hk1 hk r hO _ H) (fun b a v hR F => ?_))
    clear H
    refine wpListIn_nil ?_
    refine hK2 _ _ ?_
    clear hK2
    try clear K2
    rcases hR with ⟨rfl, hlt, r1, hO1, H⟩ | ⟨rfl, hle, r1, hO1, H⟩
    · replace F : Fm 13 [] [(10, .bool true), (0, .func (.yield lp) #[] #[]), (1, pt kb 0), (2, pt cb 0), (3, pt nbk 0)] a := F.weak _ (subL_of kr)
      refine C_if F true rfl rfl ?_
      refine wp_skip ?_
      refine hK1 _ _ ?_
      clear hK1
      try clear K1
      refine wp_block ?_
      refine C_region ?_
      refine T_val F H kr (nw k) (R_cell (own := true) (g := cb) (all := #[nw k]) (t := 53) (fr := (0, 0)) 6 kr 53 (.tmp 2) rfl 0 kr (nw k) kr _ Tryd.underlying53 rfl) ?_
      clear F; intro a F
      refine T_val F H kr (nw (add32 (k) (1))) (fun w _ => R_bin (x := (.tmp 11)) (y := (.const (.int .u32 1))) rfl (k := .u32) (a := ((k : Nat) : Int)) (b := ((1 : Nat) : Int)) kr kr (i_add32 (a := k) (b := 1)) w) ?_
      clear F; intro a F
      refine T_set F H kr rfl 6 rfl _ (S_cell 6 rfl 53 (.tmp 2) (.tmp 12) rfl 0 kr (nw (add32 (k) (1))) kr rfl (Nat.le_of_ble_eq_true rfl) _ Tryd.underlying53 rfl kr) [⟨true, lp, mxRec fn aM.tmps D .ready none⟩, ⟨true, D, .deferred (some [])⟩, bk ob #[sc r1.g 0 (64 * (k + 1)) r1.cap] 54, bk r1.g (sl (oct (mxP key nc tl ((64 * (k + 1))))) r1.rest) 5, bk tb #[sc ga oa n cp] 54, bk kb (arrF .u8 32 key) 23, bk cb #[nw (add32 (k) (1))] 53, bk nbk (arrF .u8 12 nc) 121, ⟨false, ga, .cells arr tyl fr⟩] rfl ?_
      clear F H; intro a v F H
      refine wpList_nil ?_
      refine ⟨m - 1, by omega, k + 1, by omega, by omega, ?_, .inr ⟨by omega, r1, hO1, ?_⟩⟩
      · exact F.weak _ (subL_of kr)
      · have hc1 : add32 (k) (1) = k + 1 := by unfold add32; omega
        rw [hc1] at H
        exact H
    · replace F : Fm 13 [] [(10, .bool false), (0, .func (.yield lp) #[] #[]), (1, pt kb 0), (2, pt cb 0), (3, pt nbk 0)] a := F.weak _ (subL_of kr)
      refine C_if F false rfl rfl ?_
      refine wp_exit ?_
      exact ⟨F.df, _, results_none rfl _ _ _, _, r1, rfl, hO1, H⟩

set_option maxRecDepth 100000 in
set_option maxHeartbeats 4000000 in
theorem mix_some (key : Nat → Nat) (hkey : ∀ i, key i < 256) (nc : Nat → Nat) (hnc : ∀ i, nc i < 256) (tl : List Nat) (htl : ∀ x ∈ tl, x < 256) (ga oa n cp : Nat) (arr : Array Value) (tyl : TypeId) (fr : Nat × Nat) (harr : ∀ j, j < n → arr[oa + j]? = some (.int .u8 ((tl.getD j 0 : Nat) : Int))) (h0 : 0 < n) (hn : n ≤ 4000) (hcp : n ≤ cp) (w : World) (hW : LaidS w) (hga : w.heap[ga]? = some (.cells arr tyl fr)) : Calls Tryd.prog 91 #[.agg (arrF .u8 32 key), .int .u32 ((0 : Nat) : Int), .agg (arrF .u8 12 nc), .slice (some ⟨ga, oa, none⟩) n cp] w fun e w' => ∃ r : SlR, e = .returned (.tuple #[.slice (some ⟨r.g, 0, none⟩) n r.cap, .int .i64 0]) ∧ Own (oct (mxP key nc tl n)) r.rest n r.cap 1 ∧ w.heap.size ≤ r.g ∧ w'.heap[r.g]? = some (.cells (sl (oct (mxP key nc tl n)) r.rest) 5 (0, 0)) ∧ Kept [] w w' := by
  refine C_enterM Tryd.func91 rfl 34 Tryd.ntmps91 (Nat.le_of_ble_eq_true rfl) (fun a F => ?_)
  have H := Hp.start1 [] hga
  replace F : Fm 34 [] [(0, kyV key), (1, nw 0), (2, .agg (arrF .u8 12 nc)), (3, sc ga oa n cp)] a := F.weak _ (subL_of kr)
  refine C_seqK (fun K1 hK1 => ?_)
  refine C_region ?_
  refine T_new F H kr (fun ad => pt ad 0) (ce (arrF .u8 32 key) 23) (fun w => kr) ?_
  clear F H; intro aq2 a v F H
  refine T_new F H kr (fun ad => pt ad 0) (ce (arrF .u8 12 nc) 121) (fun w => kr) ?_
  clear F H; intro aq3 a v F H
  refine T_new F H kr (fun ad => pt ad 0) (ce #[sc ga oa n cp] 54) (fun w => kr) ?_
  clear F H; intro aq4 a v F H
  refine T_k F H (.slice none 0 0) ?_
  clear F; intro a F
  refine T_k F H (ni 0) ?_
  clear F; intro a F
  refine wpList_nil ?_
  refine hK1 _ _ ?_
  clear hK1
  try clear K1
  refine C_seqK (fun K5 hK5 => ?_)
  refine C_seqK (fun K6 hK6 => ?_)
  refine C_region ?_
  refine T_val F H kr (sc ga oa n cp) (R_cell (own := true) (g := aq4) (all := #[sc ga oa n cp]) (t := 54) (fr := (0, 0)) 0 kr 54 (.tmp 7) rfl 0 kr (sc ga oa n cp) kr _ Tryd.underlying54 rfl) ?_
  clear F; intro a F
  refine T_k F H (ni n) ?_
  clear F; intro a F
  refine T_val F H kr (.bool false) (fun w _ => R_bin (x := (.tmp 13)) (y := (.const (.int .i64 4000))) rfl (k := .i64) (a := ((n : Nat) : Int)) (b := ((4000 : Nat) : Int)) kr kr (i_ngtn (by omega)) w) ?_
  clear F; intro a F
  refine wpList_nil ?_
  refine hK6 _ _ ?_
  clear hK6
  try clear K6
  refine C_if F false rfl rfl ?_
  refine wp_skip ?_
  refine hK5 _ _ ?_
  clear hK5
  try clear K5
  refine C_seqK (fun K7 hK7 => ?_)
  refine C_region ?_
  refine T_new F H kr (fun ad => pt ad 0) (ce #[.slice none 0 0] 54) (fun w => kr) ?_
  clear F H; intro aq8 a v F H
  refine wpList_nil ?_
  refine hK7 _ _ ?_
  clear hK7
  try clear K7
  refine C_seqK (fun K9 hK9 => ?_)
  refine C_seqK (fun K10 hK10 => ?_)
  refine C_region ?_
  refine T_val F H kr (kyV key) (R_load (own := true) (g := aq2) (all := (arrF .u8 32 key)) (t := 23) (fr := (0, 0)) 3 kr 23 (.tmp 4) rfl 0 kr (arrF .u8 32 key) (part_all _) _ Tryd.underlying23 rfl (by rw [arrF_size]; kernel_rfl)) ?_
  clear F; intro a F
  refine T_k F H (nw 0) ?_
  clear F; intro a F
  refine T_val F H kr (.agg (arrF .u8 12 nc)) (R_load (own := true) (g := aq3) (all := (arrF .u8 12 nc)) (t := 121) (fr := (0, 0)) 2 kr 121 (.tmp 6) rfl 0 kr (arrF .u8 12 nc) (part_all _) _ Tryd.underlying121 rfl (by rw [arrF_size]; kernel_rfl)) ?_
  clear F; intro a F
  refine T_callX (α := SlR) F H kr 106 #[kyV key, nw 0, .agg (arrF .u8 12 nc)] (fun rX => .func (.func 122) #[] #[pt rX.g 0, pt rX.cap 0, pt rX.n 0]) (fun rX => [bk rX.g (arrF .u8 32 key) 23, bk rX.cap #[nw 0] 53, bk rX.n (arrF .u8 12 nc) 121, bk aq8 #[.slice none 0 0] 54, bk aq4 #[sc ga oa n cp] 54, bk aq3 (arrF .u8 12 nc) 121, bk aq2 (arrF .u8 32 key) 23, ⟨false, ga, .cells arr tyl fr⟩]) (fun rX => True) (fun w => kr) (fun w H => (blocks_any key nc w).mono fun _ _ ⟨r, q1, q2⟩ => ⟨r, q1, trivial, H.merge q2 kr⟩) ?_
  clear F H; intro rq11 a v Qrq11 F H
  refine wpList_nil ?_
  replace F : Fm 34 [] [(18, .func (.func 122) #[] #[pt rq11.g 0, pt rq11.cap 0, pt rq11.n 0]), (10, pt aq8 0), (7, pt aq4 0)] a := F.weak _ (subL_of kr)
  replace H : Hp [] w [bk aq8 #[.slice none 0 0] 54, bk aq4 #[sc ga oa n cp] 54, bk rq11.g (arrF .u8 32 key) 23, bk rq11.cap #[nw 0] 53, bk rq11.n (arrF .u8 12 nc) 121, ⟨false, ga, .cells arr tyl fr⟩] v := H.pick [3, 4, 0, 1, 2, 7] kr _ rfl
  generalize aq8 = ob at F H
  generalize aq4 = tb at F H
  generalize rq11.g = kb at F H
  generalize rq11.cap = cb at F H
  generalize rq11.n = nbk at F H
  replace F : Fm 34 [] [(18, .func (.func 122) #[] #[pt kb 0, pt cb 0, pt nbk 0]), (10, pt ob 0), (7, pt tb 0)] a := F
  replace H : Hp [] w [bk ob #[.slice none 0 0] 54, bk tb #[sc ga oa n cp] 54, bk kb (arrF .u8 32 key) 23, bk cb #[nw 0] 53, bk nbk (arrF .u8 12 nc) 121, ⟨false, ga, .cells arr tyl fr⟩] v := H
  refine hK10 _ _ ?_
  clear hK10
  try clear K10
  refine wp_block ?_
  have FM : Fm 34 [] [(10, pt ob 0), (7, pt tb 0)] a := F.weak _ (subL_of kr)
  refine C_range F H rfl (gf := 122) (lb := #[pt kb 0, pt cb 0, pt nbk 0]) rfl (fun _ _ => kr) (fun r => [bk ob #[sc r.g 0 n r.cap] 54, bk r.g (sl (oct (mxP key nc tl n)) r.rest) 5, ⟨false, ga, .cells arr tyl fr⟩]) (fun r => Own (oct (mxP key nc tl n)) r.rest n r.cap 1) (.exit 0) (fun fn D lp v H => mx_iter key hkey nc hnc tl htl ga oa n cp arr tyl fr harr h0 hn hcp w hW ob tb kb cb nbk fn D lp a FM v H) (fun r D a v hO F H => ?_)
  refine wp_exit ?_
  refine hK9 _ _ ?_
  clear hK9
  try clear K9
  refine C_seqK (fun K12 hK12 => ?_)
  refine C_region ?_
  refine T_val F H kr (sc r.g 0 n r.cap) (R_cell (own := true) (g := ob) (all := #[sc r.g 0 n r.cap]) (t := 54) (fr := (0, 0)) 1 kr 54 (.tmp 10) rfl 0 kr (sc r.g 0 n r.cap) kr _ Tryd.underlying54 rfl) ?_
  clear F; intro a F
  refine T_k F H (sc r.g 0 n r.cap) ?_
  clear F; intro a F
  refine T_k F H (ni 0) ?_
  clear F; intro a F
  refine wpList_nil ?_
  refine hK12 _ _ ?_
  clear hK12
  try clear K12
  refine wp_ret ?_
  refine C_retM F H (k := 0) rfl (fun a v F H => ?_)
  replace H : Hp [] w [⟨true, D, .deferred none⟩, bk ob #[sc r.g 0 n r.cap] 54, bk r.g (sl (oct (mxP key nc tl n)) r.rest) 5, ⟨false, ga, .cells arr tyl fr⟩] v := H
  skip
  skip
  exact C_ret F H (rs := [.tmp 8, .tmp 9]) rfl (vs := [sc r.g 0 n r.cap, ni 0]) (.tmp rfl (.tmp rfl .nil)) (.tuple #[sc r.g 0 n r.cap, ni 0]) rfl ⟨⟨r.g, r.cap, r.rest, 0⟩, rfl, hO, H.newAt (k := 2) rfl, H.at_ (k := 2) rfl, H.kept⟩
end Go.Proofs.YtdejhenkdbjakaaDoor
