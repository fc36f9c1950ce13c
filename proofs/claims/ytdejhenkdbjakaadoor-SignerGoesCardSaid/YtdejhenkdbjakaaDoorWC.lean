/- Walks: a signer's public key, once. -/
import Derived.Test.YtdejhenkdbjakaaDoorWB
import Derived.Test.YtdejhenkdbjakaaDoorWL
set_option linter.unusedVariables false
set_option linter.unusedSimpArgs false
namespace Go.Proofs.YtdejhenkdbjakaaDoor
open Go Go.RowKit
theorem set_same {l : List Nat} {k a : Nat} (h : l[k]? = some a) : l.set k a = l := by
  refine List.ext_getElem? fun i => ?_
  rw [List.getElem?_set]
  split
  · rename_i e; subst e
    split
    · exact h.symm
    · rename_i h2; rw [List.getElem?_eq_none (by omega)] at h; cases h
  · rfl
theorem Hp.put2 {X : List Nat} {w0 : World} {L : List Blk} {w w' : World} (H : Hp X w0 L w) {k k2 ad ad2 : Nat} {Z Z2 R R2 : Obj} (hk : L[k]? = some ⟨true, ad, Z⟩) (hk2 : L[k2]? = some ⟨true, ad2, Z2⟩) (hne : k ≠ k2) (hK : Kept [ad, ad2] w w') (h1 : w'.heap[ad]? = some R) (h2 : w'.heap[ad2]? = some R2) : Hp X w0 ((L.set k ⟨true, ad, R⟩).set k2 ⟨true, ad2, R2⟩) w' := by
  have hm1 := List.mem_of_getElem? hk
  have hm2 := List.mem_of_getElem? hk2
  have hads : ((L.set k ⟨true, ad, R⟩).set k2 ⟨true, ad2, R2⟩).map (·.ad) = L.map (·.ad) := by
    rw [List.map_set, List.map_set]
    have e1 : (L.map (·.ad))[k]? = some ad := by rw [List.getElem?_map, hk]; rfl
    have e2 : (L.map (·.ad))[k2]? = some ad2 := by rw [List.getElem?_map, hk2]; rfl
    show (((L.map (·.ad)).set k ad).set k2 ad2) = _
    rw [set_same e1, set_same e2]
  have hcase : ∀ p ∈ (L.set k ⟨true, ad, R⟩).set k2 ⟨true, ad2, R2⟩, p = ⟨true, ad, R⟩ ∨ p = ⟨true, ad2, R2⟩ ∨ (p ∈ L ∧ p.ad ≠ ad ∧ p.ad ≠ ad2) := fun p hp => by
    obtain ⟨j, hj, rfl⟩ := List.mem_iff_getElem.1 hp
    rw [List.getElem_set]
    split
    · exact .inr (.inl rfl)
    · rw [List.getElem_set]
      split
      · exact .inl rfl
      · rename_i n2 n1
        have hjl : j < L.length := by simpa using hj
        refine .inr (.inr ⟨List.getElem_mem _, ?_, ?_⟩)
        · exact fun e => H.apart (i := j) (j := k) (List.getElem?_eq_getElem hjl) hk (fun h => n1 h.symm) e
        · exact fun e => H.apart (i := j) (j := k2) (List.getElem?_eq_getElem hjl) hk2 (fun h => n2 h.symm) e
  refine ⟨H.kept.trans (fun y hy => ?_) hK, fun p hp => ?_, fun p hp ho => ?_, ?_⟩
  · simp only [List.mem_cons, List.not_mem_nil, or_false] at hy
    rcases hy with rfl | rfl
    · exact H.own _ hm1 rfl
    · exact H.own _ hm2 rfl
  · rcases hcase p hp with rfl | rfl | ⟨h3, h4, h5⟩
    · exact h1
    · exact h2
    · exact (hK.block _ (heap_in (H.held p h3)) (by simp [h4, h5])).trans (H.held p h3)
  · rcases hcase p hp with rfl | rfl | ⟨h3, h4, h5⟩
    · exact H.own ⟨true, ad, Z⟩ hm1 rfl
    · exact H.own ⟨true, ad2, Z2⟩ hm2 rfl
    · exact H.own p h3 ho
  · have hf := H.far
    rw [← List.pairwise_map (f := fun p : Blk => p.ad) (R := fun a b => a ≠ b)] at hf ⊢
    rw [hads]
    exact hf
theorem callsX_put2 {P : Program} {X : List Nat} {w0 : World} {L : List Blk} {f : Nat} {args : Array Value} {w : World} (H : Hp X w0 L w) {k k2 ad ad2 : Nat} {Z Z2 : Obj} {R R2 : SlR → Obj} {q : SlR → Prop} {v : SlR → Value} (hk : L[k]? = some ⟨true, ad, Z⟩) (hk2 : L[k2]? = some ⟨true, ad2, Z2⟩) (hne : k ≠ k2) (h : Calls P f args w fun en w' => ∃ r, en = .returned (v r) ∧ q r ∧ Kept [ad, ad2] w w' ∧ w'.heap[ad]? = some (R r) ∧ w'.heap[ad2]? = some (R2 r)) :
    Calls P f args w fun en w' => ∃ r : SlR, en = .returned (v r) ∧ q r ∧ Hp X w0 ((L.set k ⟨true, ad, R r⟩).set k2 ⟨true, ad2, R2 r⟩) w' :=
  h.mono fun _ w' ⟨r, h1, h2, h3, h4, h5⟩ => ⟨r, h1, h2, H.put2 hk hk2 hne h3 h4 h5⟩
theorem Hp.start3 {w : World} {gm sg pl : Nat} {om os op : Obj} (hm : w.heap[gm]? = some om) (hs : w.heap[sg]? = some os) (hp : w.heap[pl]? = some op) (h1 : gm ≠ sg) (h2 : gm ≠ pl) (h3 : sg ≠ pl) : Hp [gm, sg] w [⟨true, gm, om⟩, ⟨true, sg, os⟩, ⟨false, pl, op⟩] w :=
  ⟨Kept.refl _ _, (fun p hq => by
    simp only [List.mem_cons, List.not_mem_nil, or_false] at hq
    rcases hq with rfl | rfl | rfl
    · exact hm
    · exact hs
    · exact hp), (fun p hq ho => by
    simp only [List.mem_cons, List.not_mem_nil, or_false] at hq
    rcases hq with rfl | rfl | rfl
    · exact .inr (by simp)
    · exact .inr (by simp)
    · cases ho), List.pairwise_cons.2 ⟨(fun q hq => by
      simp only [List.mem_cons, List.not_mem_nil, or_false] at hq
      rcases hq with rfl | rfl
      · exact h1
      · exact h2), List.pairwise_cons.2 ⟨(fun q hq => by simp only [List.mem_singleton] at hq; subst hq; exact h3), List.pairwise_singleton _ _⟩⟩⟩
theorem Laid.apart2 {gm n sg : Nat} {C : Array Value} {w : World} (hW : Laid w) (hm : w.heap[gm]? = some (.cells (mtr n) 91 (0, 0))) (hs : w.heap[sg]? = some (.cells C 101 (0, 0))) : 0 ∉ [gm, sg] ∧ 1 ∉ [gm, sg] := by
  have a0 := ne_of_ty hW.start hm rfl
  have a1 := ne_of_ty hW.start hs rfl
  have b0 := ne_of_ty hW.rounds hm rfl
  have b1 := ne_of_ty hW.rounds hs rfl
  exact ⟨by simp [a0, a1], by simp [b0, b1]⟩
theorem sg_lock (gm : Nat) (seed tag pub : Nat → Nat) : (sgA gm seed tag pub 0 0).setIfInBounds 66 (.int .i32 1) = sgA gm seed tag pub 0 1 := by kernel_rfl
theorem sg_66 (gm : Nat) (seed tag pub : Nat → Nat) : (sgA gm seed tag pub 0 0)[66]? = some (.int .i32 0) := by kernel_rfl
theorem sg_done (gm : Nat) (seed tag pub : Nat → Nat) : ((sgA gm seed tag pub 0 1).setIfInBounds 65 (.int .u32 1)).setIfInBounds 66 (.int .i32 0) = sgA gm seed tag pub 1 0 := by kernel_rfl
theorem lock_sg (gm sg : Nat) (seed tag pub : Nat → Nat) (w : World) (hs : w.heap[sg]? = some (.cells (sgA gm seed tag pub 0 0) 101 (0, 0))) : Calls Tryd.prog 77 #[.pointer (some ⟨sg, 66, none⟩)] w fun e w' => e = .returned (.tuple #[]) ∧ Kept [sg] w w' ∧ w'.heap[sg]? = some (.cells (sgA gm seed tag pub 0 1) 101 (0, 0)) := by
  have h := lock_row sg 66 w hs (sg_66 gm seed tag pub)
  rw [sg_lock] at h
  exact h

set_option maxRecDepth 100000 in
set_option maxHeartbeats 4000000 in
theorem load_row (b off : Nat) (d : Int) {C : Array Value} {t : TypeId} (w : World) (hb : w.heap[b]? = some (.cells C t (0, 0))) (hc : C[off]? = some (.int .u32 d)) : Calls Tryd.prog 83 #[.pointer (some ⟨b, off, none⟩)] w fun e w' => e = .returned (.bool (d != 0)) ∧ Kept [] w w' := by
  refine C_enter Tryd.func83 rfl 8 Tryd.ntmps83 (Nat.le_of_ble_eq_true rfl) (fun a F => ?_)
  have H := Hp.start1 [] hb
  replace F : Fm 8 [] [(0, pt b off)] a := F.weak _ (subL_of kr)
  refine C_seqK (fun K1 hK1 => ?_)
  refine C_region ?_
  refine T_k F H (.bool false) ?_
  clear F; intro a F
  refine wpList_nil ?_
  refine hK1 _ _ ?_
  clear hK1
  try clear K1
  refine C_seqK (fun K2 hK2 => ?_)
  refine C_region ?_
  refine T_k F H (pt b off) ?_
  clear F; intro a F
  refine T_k F H (pt b off) ?_
  clear F; intro a F
  refine T_k F H (pt b off) ?_
  clear F; intro a F
  refine T_val F H kr (.int .u32 d) (fun w hL => R_call0 rfl (args := #[pt b off]) kr (run_call_load (P := Tryd.prog) Tryd.func102 kr kr kr .u32 kr (w := w) (a := ⟨b, off, none⟩) (x := d) (by rw [cell_of_row w b off C t (0, 0) (hL.at_ (k := 0) rfl)]; exact hc))) ?_
  clear F; intro a F
  refine T_val F H kr (.bool (d != 0)) (fun w _ => R_bin (x := (.tmp 6)) (y := (.const (.int .u32 0))) rfl (k := .u32) (a := d) (b := 0) kr kr rfl w) ?_
  clear F; intro a F
  refine T_k F H (.bool (d != 0)) ?_
  clear F; intro a F
  refine wpList_nil ?_
  refine hK2 _ _ ?_
  clear hK2
  try clear K2
  refine wp_ret ?_
  exact C_ret F H (rs := [.tmp 2]) rfl (vs := [.bool (d != 0)]) (.tmp rfl .nil) (.bool (d != 0)) rfl ⟨rfl, H.kept⟩

set_option maxRecDepth 100000 in
set_option maxHeartbeats 4000000 in
theorem pub1_any (gm n sg pl : Nat) (seed : Nat → Nat) (hseed : ∀ i, i < 32 → seed i < 256) (tag : Nat → Nat) (ht : ∀ i, i < 32 → tag i < 256) (pub : Nat → Nat) (d l : Int) (w : World) (hW : Laid w) (hm : w.heap[gm]? = some (.cells (mtr n) 91 (0, 0))) (hs : w.heap[sg]? = some (.cells (sgA gm seed tag pub d l) 101 (0, 0))) (hp : w.heap[pl]? = some (.cells #[.pointer (some ⟨sg, 0, none⟩)] 36 (0, 0))) : Calls Tryd.prog 53 #[.pointer (some ⟨pl, 0, none⟩)] w fun e w' => ∃ r : SlR, e = .returned (.tuple #[]) ∧ True ∧ Kept [gm, sg] w w' ∧ w'.heap[gm]? = some (.cells (mtr r.n) 91 (0, 0)) ∧ w'.heap[sg]? = some (.cells (sgA gm seed tag (shaK (endK tag (pbK seed tag) 67)) d l) 101 (0, 0)) := by
  obtain ⟨h00, h01⟩ := hW.apart2 hm hs
  have n1 : gm ≠ sg := ne_of_ty hm hs rfl
  have n2 : gm ≠ pl := ne_of_ty hm hp rfl
  have n3 : sg ≠ pl := ne_of_ty hs hp rfl
  refine C_enter Tryd.func53 rfl 36 Tryd.ntmps53 (Nat.le_of_ble_eq_true rfl) (fun a F => ?_)
  have H := Hp.start3 hm hs hp n1 n2 n3
  replace F : Fm 36 [] [(0, pt pl 0)] a := F.weak _ (subL_of kr)
  refine C_seqK (fun K1 hK1 => ?_)
  refine C_region ?_
  refine T_k F H (.slice none 0 0) ?_
  clear F; intro a F
  refine wpList_nil ?_
  refine hK1 _ _ ?_
  clear hK1
  try clear K1
  refine C_seqK (fun K2 hK2 => ?_)
  refine C_seqK (fun K3 hK3 => ?_)
  refine C_region ?_
  refine T_k F H (ni 0) ?_
  clear F; intro a F
  refine wpList_nil ?_
  replace F : Fm 36 [] [(3, ni 0), (1, .slice none 0 0), (0, pt pl 0)] a := F.weak _ (subL_of kr)
  refine hK3 _ _ ?_
  clear hK3
  try clear K3
  refine wp_block ?_
  refine C_loop (fun m a v => (∃ c : Nat, m = 67 ∧ Fm 36 [] [(3, ni 0), (1, .slice none 0 0), (0, pt pl 0)] a ∧ Hp [gm, sg] w [bk gm (mtr c) 91, bk sg (sgA gm seed tag pub d l) 101, br pl #[pt sg 0] 36] v) ∨ (∃ (k : Nat) (r : SlR) (c : Nat), k + m = 67 ∧ 1 ≤ k ∧ Own (keysC (pbK seed tag) k) r.rest k r.cap 32 ∧ Fm 36 [] [(3, ni k), (1, sc r.g 0 k r.cap), (0, pt pl 0)] a ∧ Hp [gm, sg] w [bk r.g (sl (keysC (pbK seed tag) k) r.rest) 23, bk gm (mtr c) 91, bk sg (sgA gm seed tag pub d l) 101, br pl #[pt sg 0] 36] v)) (67) (.inl ⟨n, rfl, F, H⟩) ?_
  clear F H
  intro m a v hS
  rcases hS with ⟨c, hk0, F, H⟩ | ⟨k, r, c, hk, hk1, hO, F, H⟩
  · obtain ⟨m, rfl⟩ : ∃ q, m = q + 1 := ⟨m - 1, by omega⟩
    refine C_seqK (fun K4 hK4 => ?_)
    refine C_region ?_
    refine T_val F H kr (.bool true) (fun w _ => R_bin (x := (.tmp 3)) (y := (.const (.int .i64 67))) rfl (k := .i64) (a := ((0 : Nat) : Int)) (b := ((67 : Nat) : Int)) kr kr (i_lt (by omega)) w) ?_
    clear F; intro a F
    refine wpList_nil ?_
    refine hK4 _ _ ?_
    clear hK4
    try clear K4
    refine C_seqK (fun K5 hK5 => ?_)
    refine C_if F true rfl rfl ?_
    refine wp_skip ?_
    refine hK5 _ _ ?_
    clear hK5
    try clear K5
    refine C_seqK (fun K6 hK6 => ?_)
    refine wp_block ?_
    refine C_seqK (fun K7 hK7 => ?_)
    refine C_region ?_
    refine T_k F H (ni 0) ?_
    clear F; intro a F
    refine T_k F H (ni 0) ?_
    clear F; intro a F
    refine wpList_nil ?_
    refine hK7 _ _ ?_
    clear hK7
    try clear K7
    refine E_region F H (fun β => [(6, .slice none 0 0), (7, pt sg 0), (8, pt sg 0), (9, pt sg 0), (10, pt gm 0), (11, pt sg 0), (12, pt sg 0), (13, pt sg 33), (14, kyV tag), (15, ni 0), (16, pt sg 0), (17, ni 0), (18, kyV (begF seed ((0 : Nat) : Int))), (19, kyV (pbK seed tag 0)), (20, sc ((β 14).g) 0 1 1), (21, sc ((β 15).g) 0 1 (β 15).cap), (1, sc ((β 15).g) 0 1 (β 15).cap)]) [6, 7, 8, 9, 10, 11, 12, 13, 14, 15, 16, 17, 18, 19, 20, 21, 1] [⟨some 14, none, 0, [], fun q_ => ce (sl (keyC (pbK seed tag 0)) []) 23, gT, []⟩,
      ⟨some 15, none, 0, [15], fun q_ => ce (sl (keyC (pbK seed tag 0)) (gh q_ 0).rest) 23, fun q_ => Own (keyC (pbK seed tag 0)) (gh q_ 0).rest (1) (gh q_ 0).cap 32, []⟩,
      ⟨none, none, gm, [], fun q_ => ce (mtr c) 91, gT, [⟨12, [12], fun q_ => ce (mtr (gh q_ 0).n) 91, gT⟩, ⟨13, [13], fun q_ => ce (mtr (gh q_ 0).n) 91, gT⟩]⟩] [bk sg (sgA gm seed tag pub d l) 101, br pl #[pt sg 0] 36] [0, 1, 2] 2 [(0, [1])] kr kr kr (fun β => rfl) ⟨fun h _ => Bool.noConfusion h, ⟨fun h _ => Bool.noConfusion h, ⟨fun _ _ => trivial, trivial⟩⟩⟩ ⟨?_, ?_, ?_, ?_, ?_, ?_, ?_, ?_, ?_, ?_, ?_, ?_, ?_, ?_, ?_, ?_, ?_, trivial⟩ ?_
    · exact E_k 36 (fun β => .slice none 0 0) 6 2
    · exact E_v 36 (fun β => pt sg 0) 7 2 [] (fun β w hk hl hq => R_cellH hl (own := false) (g := pl) (all := #[pt sg 0]) (t := 36) (fr := (0, 0)) 1 kr 36 (.tmp 0) rfl 0 kr (pt sg 0) kr _ Tryd.underlying36 rfl)
    · exact E_k 36 (fun β => pt sg 0) 8 2
    · exact E_k 36 (fun β => pt sg 0) 9 2
    · exact E_v 36 (fun β => pt gm 0) 10 2 [] (fun β w hk hl hq => R_cellH hl (own := true) (g := sg) (all := (sgA gm seed tag pub d l)) (t := 101) (fr := (0, 0)) 0 kr 27 (.tmp 9) rfl 0 kr (pt gm 0) kr _ Tryd.underlying27 rfl)
    · exact E_v 36 (fun β => pt sg 0) 11 2 [] (fun β w hk hl hq => R_cellH hl (own := false) (g := pl) (all := #[pt sg 0]) (t := 36) (fr := (0, 0)) 1 kr 36 (.tmp 0) rfl 0 kr (pt sg 0) kr _ Tryd.underlying36 rfl)
    · exact E_k 36 (fun β => pt sg 0) 12 2
    · exact E_k 36 (fun β => pt sg 33) 13 2
    · exact E_v 36 (fun β => kyV tag) 14 2 [] (fun β w hk hl hq => R_loadH hl (own := true) (g := sg) (all := (sgA gm seed tag pub d l)) (t := 101) (fr := (0, 0)) 0 kr 23 (.tmp 13) rfl 33 kr (arrF .u8 32 tag) (part_ext kr) _ Tryd.underlying23 rfl kr)
    · exact E_k 36 (fun β => ni 0) 15 2
    · exact E_v 36 (fun β => pt sg 0) 16 2 [] (fun β w hk hl hq => R_cellH hl (own := false) (g := pl) (all := #[pt sg 0]) (t := 36) (fr := (0, 0)) 1 kr 36 (.tmp 0) rfl 0 kr (pt sg 0) kr _ Tryd.underlying36 rfl)
    · exact E_k 36 (fun β => ni 0) 17 2
    · exact E_callP 36 kq (fun β => kyV (begF seed ((0 : Nat) : Int))) 18 rfl kq 2 (fun β r => offAt2_of kr kr) 54 (fun β => #[pt sg 0, ni 0]) (fun β w => kr) 2 [] 2 0 _ _ rfl rfl kr kr rfl (fun β w hk hl hq hm => begin_any gm c sg seed tag pub d l hseed (((0 : Nat) : Int)) _ (hW.kept hk h00 h01) hm (hl.at_ (k := 0) rfl))
    · exact E_callP 36 kq (fun β => kyV (pbK seed tag 0)) 19 rfl kq 2 (fun β r => offAt2_of kr kr) 19 (fun β => #[pt gm 0, kyV tag, ni 0, ni 0, ni 15, kyV (begF seed ((0 : Nat) : Int))]) (fun β w => kr) 2 [] 2 1 _ _ rfl rfl kr kr rfl (fun β w hk hl hq hm => along_to gm (β 12).n tag ht (((0 : Nat) : Int)) (((0 : Nat) : Int)) (((15 : Nat) : Int)) (by omega) (by omega) (15) (by omega) (begF seed ((0 : Nat) : Int)) (fun i _ => begF_lt _ _ i) _ (hW.kept hk h00 h01) hm)
    · exact E_new 36 kq (fun β => sc ((β 14).g) 0 1 1) 20 rfl kq 2 (fun β r => offAt2_of kr kr) 2 [] 0 _ rfl kr kr rfl (fun β w hk hl hq => ⟨⟨w.heap.size, 0, [], 0⟩, _, (R_buildS (len := 1) rfl Tryd.underlying39 ((sl (keyC (pbK seed tag 0)) [])) kr w), trivial, Nat.le_refl _, heap_alloc_new _ _, Kept.alloc _ _⟩)
    · exact E_new 36 kq (fun β => sc ((β 15).g) 0 1 (β 15).cap) 21 rfl kq 2 (fun β r => offAt2_of kr kr) 2 [(0, 0)] 1 _ rfl kr kr rfl (fun β w hk hl hq => let ⟨r, w', h1, h2, h3, h4, h5⟩ := run_appN (size := 32) (bytes := 32) (t := 39) (e := 23) kr kr (x := sc ((β 14).g) 0 1 1) (m := 1) (news := keyC (pbK seed tag 0)) (RdS.all (hl.at_ (k := 0) rfl) (Nat.le_refl _)) (by rw [keyC_len]) (by decide) (by simp only [maxLen]; decide) (by decide); ⟨r, w', exec_append (s := (.tmp 6)) (x := (.tmp 20)) rfl kr rfl h1, h2, h4, h3, h5⟩)
    · exact E_k 36 (fun β => sc ((β 15).g) 0 1 (β 15).cap) 1 2
    clear F H; intro β a v Q F H
    replace H : Hp [gm, sg] w [bk ((β 14).g) (sl (keyC (pbK seed tag 0)) []) 23, bk ((β 15).g) (sl (keyC (pbK seed tag 0)) (β 15).rest) 23, bk gm (mtr (β 13).n) 91, bk sg (sgA gm seed tag pub d l) 101, br pl #[pt sg 0] 36] v := H
    replace F : Fm 36 [] [(1, sc ((β 15).g) 0 1 (β 15).cap), (21, sc ((β 15).g) 0 1 (β 15).cap), (20, sc ((β 14).g) 0 1 1), (19, kyV (pbK seed tag 0)), (18, kyV (begF seed ((0 : Nat) : Int))), (17, ni 0), (16, pt sg 0), (15, ni 0), (14, kyV tag), (13, pt sg 33), (12, pt sg 0), (11, pt sg 0), (10, pt gm 0), (9, pt sg 0), (8, pt sg 0), (7, pt sg 0), (6, .slice none 0 0), (2, ni 0), (5, ni 0), (4, .bool true), (3, ni 0), (0, pt pl 0)] a := F.weak _ (subL_of kr)
    have Qh11_1 : Own (keyC (pbK seed tag 0)) (β 15).rest (1) (β 15).cap 32 := Q.2.2.1
    clear Q
    generalize β 14 = rq8 at F H Qh11_1
    generalize β 15 = rq9 at F H Qh11_1
    generalize β 12 = rq10 at F H Qh11_1
    generalize β 13 = rq11 at F H Qh11_1
    skip
    refine ?_
    have Qrq9 : Own (keysC (pbK seed tag) 1) rq9.rest 1 rq9.cap 32 := Qh11_1
    replace H : Hp [gm, sg] w [bk rq9.g (sl (keyC (pbK seed tag 0)) rq9.rest) 23, bk gm (mtr rq11.n) 91, bk sg (sgA gm seed tag pub d l) 101, br pl #[pt sg 0] 36] v := H.pick [1, 2, 3, 4] kr _ rfl
    replace H : Hp [gm, sg] w [bk rq9.g (sl (keysC (pbK seed tag) 1) rq9.rest) 23, bk gm (mtr rq11.n) 91, bk sg (sgA gm seed tag pub d l) 101, br pl #[pt sg 0] 36] v := H
    replace F : Fm 36 [] [(1, sc rq9.g 0 1 rq9.cap), (21, sc rq9.g 0 1 rq9.cap), (20, sc rq8.g 0 1 1), (19, kyV (pbK seed tag 0)), (18, kyV (begF seed ((0 : Nat) : Int))), (17, ni 0), (16, pt sg 0), (15, ni 0), (14, kyV tag), (13, pt sg 33), (12, pt sg 0), (11, pt sg 0), (10, pt gm 0), (9, pt sg 0), (8, pt sg 0), (7, pt sg 0), (6, .slice none 0 0), (2, ni 0), (5, ni 0), (4, .bool true), (3, ni 0), (0, pt pl 0)] a := F
    refine hK6 _ _ ?_
    clear hK6
    try clear K6
    refine C_region ?_
    refine T_k F H (ni 1) ?_
    clear F; intro a F
    refine T_k F H (ni 1) ?_
    clear F; intro a F
    refine wpList_nil ?_
    replace F : Fm 36 [] [(3, ni 1), (1, sc rq9.g 0 1 rq9.cap), (0, pt pl 0)] a := F.weak _ (subL_of kr)
    replace H : Hp [gm, sg] w [bk rq9.g (sl (keysC (pbK seed tag) 1) rq9.rest) 23, bk gm (mtr rq11.n) 91, bk sg (sgA gm seed tag pub d l) 101, br pl #[pt sg 0] 36] v := H
    exact ⟨m, Nat.lt_succ_self m, .inr ⟨1, rq9, rq11.n, by omega, by omega, Qrq9, F, H⟩⟩
  rcases m with _ | m
  rotate_left
  · skip
    refine C_seqK (fun K12 hK12 => ?_)
    refine C_region ?_
    refine T_val F H kr (.bool true) (fun w _ => R_bin (x := (.tmp 3)) (y := (.const (.int .i64 67))) rfl (k := .i64) (a := ((k : Nat) : Int)) (b := ((67 : Nat) : Int)) kr kr (i_lt (by omega)) w) ?_
    clear F; intro a F
    refine wpList_nil ?_
    refine hK12 _ _ ?_
    clear hK12
    try clear K12
    refine C_seqK (fun K13 hK13 => ?_)
    refine C_if F true rfl rfl ?_
    refine wp_skip ?_
    refine hK13 _ _ ?_
    clear hK13
    try clear K13
    refine C_seqK (fun K14 hK14 => ?_)
    refine wp_block ?_
    refine C_seqK (fun K15 hK15 => ?_)
    refine C_region ?_
    refine T_k F H (ni k) ?_
    clear F; intro a F
    refine T_k F H (ni k) ?_
    clear F; intro a F
    refine wpList_nil ?_
    refine hK15 _ _ ?_
    clear hK15
    try clear K15
    refine E_region F H (fun β => [(6, sc r.g 0 k r.cap), (7, pt sg 0), (8, pt sg 0), (9, pt sg 0), (10, pt gm 0), (11, pt sg 0), (12, pt sg 0), (13, pt sg 33), (14, kyV tag), (15, ni k), (16, pt sg 0), (17, ni k), (18, kyV (begF seed ((k : Nat) : Int))), (19, kyV (pbK seed tag k)), (20, sc ((β 14).g) 0 1 1), (21, sc ((β 15).g) 0 (k + 1) (β 15).cap), (1, sc ((β 15).g) 0 (k + 1) (β 15).cap)]) [6, 7, 8, 9, 10, 11, 12, 13, 14, 15, 16, 17, 18, 19, 20, 21, 1] [⟨some 14, none, 0, [], fun q_ => ce (sl (keyC (pbK seed tag k)) []) 23, gT, []⟩,
      ⟨some 15, none, 0, [15], fun q_ => ce (sl ((keysC (pbK seed tag) k) ++ (keyC (pbK seed tag k))) (gh q_ 0).rest) 23, fun q_ => Own ((keysC (pbK seed tag) k) ++ (keyC (pbK seed tag k))) (gh q_ 0).rest ((k + 1)) (gh q_ 0).cap 32, []⟩,
      ⟨none, none, gm, [], fun q_ => ce (mtr c) 91, gT, [⟨12, [12], fun q_ => ce (mtr (gh q_ 0).n) 91, gT⟩, ⟨13, [13], fun q_ => ce (mtr (gh q_ 0).n) 91, gT⟩]⟩,
      ⟨none, some 15, r.g, [], fun q_ => ce (sl (keysC (pbK seed tag) k) r.rest) 23, gT, []⟩] [bk sg (sgA gm seed tag pub d l) 101, br pl #[pt sg 0] 36] [1, 0, 2, 3] 2 [(0, [1])] kr kr kr (fun β => rfl) ⟨fun h _ => Bool.noConfusion h, ⟨fun h _ => Bool.noConfusion h, ⟨fun _ _ => trivial, ⟨fun _ _ => trivial, trivial⟩⟩⟩⟩ ⟨?_, ?_, ?_, ?_, ?_, ?_, ?_, ?_, ?_, ?_, ?_, ?_, ?_, ?_, ?_, ?_, ?_, trivial⟩ ?_
    · exact E_k 36 (fun β => sc r.g 0 k r.cap) 6 2
    · exact E_v 36 (fun β => pt sg 0) 7 2 [] (fun β w hk hl hq => R_cellH hl (own := false) (g := pl) (all := #[pt sg 0]) (t := 36) (fr := (0, 0)) 1 kr 36 (.tmp 0) rfl 0 kr (pt sg 0) kr _ Tryd.underlying36 rfl)
    · exact E_k 36 (fun β => pt sg 0) 8 2
    · exact E_k 36 (fun β => pt sg 0) 9 2
    · exact E_v 36 (fun β => pt gm 0) 10 2 [] (fun β w hk hl hq => R_cellH hl (own := true) (g := sg) (all := (sgA gm seed tag pub d l)) (t := 101) (fr := (0, 0)) 0 kr 27 (.tmp 9) rfl 0 kr (pt gm 0) kr _ Tryd.underlying27 rfl)
    · exact E_v 36 (fun β => pt sg 0) 11 2 [] (fun β w hk hl hq => R_cellH hl (own := false) (g := pl) (all := #[pt sg 0]) (t := 36) (fr := (0, 0)) 1 kr 36 (.tmp 0) rfl 0 kr (pt sg 0) kr _ Tryd.underlying36 rfl)
    · exact E_k 36 (fun β => pt sg 0) 12 2
    · exact E_k 36 (fun β => pt sg 33) 13 2
    · exact E_v 36 (fun β => kyV tag) 14 2 [] (fun β w hk hl hq => R_loadH hl (own := true) (g := sg) (all := (sgA gm seed tag pub d l)) (t := 101) (fr := (0, 0)) 0 kr 23 (.tmp 13) rfl 33 kr (arrF .u8 32 tag) (part_ext kr) _ Tryd.underlying23 rfl kr)
    · exact E_k 36 (fun β => ni k) 15 2
    · exact E_v 36 (fun β => pt sg 0) 16 2 [] (fun β w hk hl hq => R_cellH hl (own := false) (g := pl) (all := #[pt sg 0]) (t := 36) (fr := (0, 0)) 1 kr 36 (.tmp 0) rfl 0 kr (pt sg 0) kr _ Tryd.underlying36 rfl)
    · exact E_k 36 (fun β => ni k) 17 2
    · exact E_callP 36 kq (fun β => kyV (begF seed ((k : Nat) : Int))) 18 rfl kq 2 (fun β r => offAt2_of kr kr) 54 (fun β => #[pt sg 0, ni k]) (fun β w => kr) 2 [] 2 0 _ _ rfl rfl kr kr rfl (fun β w hk hl hq hm => begin_any gm c sg seed tag pub d l hseed (((k : Nat) : Int)) _ (hW.kept hk h00 h01) hm (hl.at_ (k := 0) rfl))
    · exact E_callP 36 kq (fun β => kyV (pbK seed tag k)) 19 rfl kq 2 (fun β r => offAt2_of kr kr) 19 (fun β => #[pt gm 0, kyV tag, ni k, ni 0, ni 15, kyV (begF seed ((k : Nat) : Int))]) (fun β w => kr) 2 [] 2 1 _ _ rfl rfl kr kr rfl (fun β w hk hl hq hm => along_to gm (β 12).n tag ht (((k : Nat) : Int)) (((0 : Nat) : Int)) (((15 : Nat) : Int)) (by omega) (by omega) (15) (by omega) (begF seed ((k : Nat) : Int)) (fun i _ => begF_lt _ _ i) _ (hW.kept hk h00 h01) hm)
    · exact E_new 36 kq (fun β => sc ((β 14).g) 0 1 1) 20 rfl kq 2 (fun β r => offAt2_of kr kr) 2 [] 0 _ rfl kr kr rfl (fun β w hk hl hq => ⟨⟨w.heap.size, 0, [], 0⟩, _, (R_buildS (len := 1) rfl Tryd.underlying39 ((sl (keyC (pbK seed tag k)) [])) kr w), trivial, Nat.le_refl _, heap_alloc_new _ _, Kept.alloc _ _⟩)
    · exact E_app 36 kq (fun β => sc ((β 15).g) 0 (k + 1) (β 15).cap) 21 rfl kq 2 (fun β r => offAt2_of kr kr) 2 [(0, 0)] 1 2 _ _ rfl rfl kr kr rfl rfl (fun β w hk hl hq hm => let ⟨r, w', h1, h2, h3, h4⟩ := run_app (size := 32) (bytes := 32) (t := 39) (e := 23) kr kr hO hm (x := sc ((β 14).g) 0 1 1) (m := 1) (news := keyC (pbK seed tag k)) (RdS.all (hl.at_ (k := 0) rfl) (Nat.le_refl _)) (by rw [keyC_len]) (keyC_one _) (by simp only [maxLen]; omega) (by omega); ⟨r, w', exec_append (s := (.tmp 6)) (x := (.tmp 20)) rfl kr rfl h1, h2, h3, h4⟩)
    · exact E_k 36 (fun β => sc ((β 15).g) 0 (k + 1) (β 15).cap) 1 2
    clear F H; intro β a v Q F H
    replace H : Hp [gm, sg] w [bk ((β 14).g) (sl (keyC (pbK seed tag k)) []) 23, bk ((β 15).g) (sl ((keysC (pbK seed tag) k) ++ (keyC (pbK seed tag k))) (β 15).rest) 23, bk gm (mtr (β 13).n) 91, bk sg (sgA gm seed tag pub d l) 101, br pl #[pt sg 0] 36] v := H
    replace F : Fm 36 [] [(1, sc ((β 15).g) 0 (k + 1) (β 15).cap), (21, sc ((β 15).g) 0 (k + 1) (β 15).cap), (20, sc ((β 14).g) 0 1 1), (19, kyV (pbK seed tag k)), (18, kyV (begF seed ((k : Nat) : Int))), (17, ni k), (16, pt sg 0), (15, ni k), (14, kyV tag), (13, pt sg 33), (12, pt sg 0), (11, pt sg 0), (10, pt gm 0), (9, pt sg 0), (8, pt sg 0), (7, pt sg 0), (6, sc r.g 0 k r.cap), (2, ni k), (5, ni k), (4, .bool true), (3, ni k), (0, pt pl 0)] a := F.weak _ (subL_of kr)
    have Qh19_1 : Own ((keysC (pbK seed tag) k) ++ (keyC (pbK seed tag k))) (β 15).rest ((k + 1)) (β 15).cap 32 := Q.2.2.1
    clear Q
    generalize β 14 = rq16 at F H Qh19_1
    generalize β 15 = rq17 at F H Qh19_1
    generalize β 12 = rq18 at F H Qh19_1
    generalize β 13 = rq19 at F H Qh19_1
    skip
    refine ?_
    have Qrq17 : Own (keysC (pbK seed tag) (k + 1)) rq17.rest (k + 1) rq17.cap 32 := Qh19_1
    replace H : Hp [gm, sg] w [bk rq17.g (sl ((keysC (pbK seed tag) k) ++ (keyC (pbK seed tag k))) rq17.rest) 23, bk gm (mtr rq19.n) 91, bk sg (sgA gm seed tag pub d l) 101, br pl #[pt sg 0] 36] v := H.pick [1, 2, 3, 4] kr _ rfl
    replace H : Hp [gm, sg] w [bk rq17.g (sl (keysC (pbK seed tag) (k + 1)) rq17.rest) 23, bk gm (mtr rq19.n) 91, bk sg (sgA gm seed tag pub d l) 101, br pl #[pt sg 0] 36] v := H
    replace F : Fm 36 [] [(1, sc rq17.g 0 (k + 1) rq17.cap), (21, sc rq17.g 0 (k + 1) rq17.cap), (20, sc rq16.g 0 1 1), (19, kyV (pbK seed tag k)), (18, kyV (begF seed ((k : Nat) : Int))), (17, ni k), (16, pt sg 0), (15, ni k), (14, kyV tag), (13, pt sg 33), (12, pt sg 0), (11, pt sg 0), (10, pt gm 0), (9, pt sg 0), (8, pt sg 0), (7, pt sg 0), (6, sc r.g 0 k r.cap), (2, ni k), (5, ni k), (4, .bool true), (3, ni k), (0, pt pl 0)] a := F
    refine hK14 _ _ ?_
    clear hK14
    try clear K14
    refine C_region ?_
    refine T_val F H kr (ni (k + 1)) (fun w _ => R_bin (x := (.tmp 3)) (y := (.const (.int .i64 1))) rfl (k := .i64) (a := ((k : Nat) : Int)) (b := ((1 : Nat) : Int)) kr kr (i_addn64 (a := k) (b := 1) (by omega)) w) ?_
    clear F; intro a F
    refine T_k F H (ni (k + 1)) ?_
    clear F; intro a F
    refine wpList_nil ?_
    replace F : Fm 36 [] [(3, ni (k + 1)), (1, sc rq17.g 0 (k + 1) rq17.cap), (0, pt pl 0)] a := F.weak _ (subL_of kr)
    replace H : Hp [gm, sg] w [bk rq17.g (sl (keysC (pbK seed tag) (k + 1)) rq17.rest) 23, bk gm (mtr rq19.n) 91, bk sg (sgA gm seed tag pub d l) 101, br pl #[pt sg 0] 36] v := H
    exact ⟨m, Nat.lt_succ_self m, .inr ⟨k + 1, rq17, rq19.n, by omega, by omega, Qrq17, F, H⟩⟩
  have hkt : k = 67 := by omega
  rw [hkt] at F H hO
  clear hk hk1
  refine C_seqK (fun K20 hK20 => ?_)
  refine C_region ?_
  refine T_val F H kr (.bool false) (fun w _ => R_bin (x := (.tmp 3)) (y := (.const (.int .i64 67))) rfl (k := .i64) (a := ((67 : Nat) : Int)) (b := ((67 : Nat) : Int)) kr kr (i_nlt (by omega)) w) ?_
  clear F; intro a F
  refine wpList_nil ?_
  refine hK20 _ _ ?_
  clear hK20
  try clear K20
  refine C_seqK (fun K21 hK21 => ?_)
  refine C_if F false rfl rfl ?_
  refine wp_exit ?_
  refine hK2 _ _ ?_
  clear hK2
  try clear K2
  refine E_region F H (fun β => [(23, pt sg 0), (24, pt sg 0), (25, pt sg 0), (26, pt sg 0), (27, pt gm 0), (28, pt sg 0), (29, pt sg 0), (30, pt sg 33), (31, kyV tag), (32, sc r.g 0 67 r.cap), (33, kyV (shaK (endK tag (pbK seed tag) 67))), (34, pt sg 0), (35, pt sg 68)]) [23, 24, 25, 26, 27, 28, 29, 30, 31, 32, 33, 34, 35] [⟨none, none, gm, [], fun q_ => ce (mtr c) 91, gT, [⟨10, [10], fun q_ => ce (mtr (gh q_ 0).n) 91, gT⟩]⟩,
    ⟨none, none, sg, [], fun q_ => ce (sgA gm seed tag pub d l) 101, gT, [⟨13, [], fun q_ => ce (#[pt gm 0] ++ (arrF .u8 32 seed) ++ (arrF .u8 32 tag) ++ #[.int .u32 d, .int .i32 l, .int .u32 0] ++ (arrF .u8 32 (shaK (endK tag (pbK seed tag) 67)))) 101, gT⟩]⟩] [bk r.g (sl (keysC (pbK seed tag) 67) r.rest) 23, br pl #[pt sg 0] 36] [1, 2, 0, 3] 2 [] kr kr kr (fun β => rfl) ⟨fun _ _ => trivial, ⟨fun _ _ => trivial, trivial⟩⟩ ⟨?_, ?_, ?_, ?_, ?_, ?_, ?_, ?_, ?_, ?_, ?_, ?_, ?_, ?_, trivial⟩ ?_
  · exact E_v 36 (fun β => pt sg 0) 23 2 [] (fun β w hk hl hq => R_cellH hl (own := false) (g := pl) (all := #[pt sg 0]) (t := 36) (fr := (0, 0)) 1 kr 36 (.tmp 0) rfl 0 kr (pt sg 0) kr _ Tryd.underlying36 rfl)
  · exact E_v 36 (fun β => pt sg 0) 24 2 [] (fun β w hk hl hq => R_cellH hl (own := false) (g := pl) (all := #[pt sg 0]) (t := 36) (fr := (0, 0)) 1 kr 36 (.tmp 0) rfl 0 kr (pt sg 0) kr _ Tryd.underlying36 rfl)
  · exact E_k 36 (fun β => pt sg 0) 25 2
  · exact E_k 36 (fun β => pt sg 0) 26 2
  · exact E_v 36 (fun β => pt gm 0) 27 2 [(1, 0)] (fun β w hk hl hq => R_cellH hl (own := true) (g := sg) (all := (sgA gm seed tag pub d l)) (t := 101) (fr := (0, 0)) 0 kr 27 (.tmp 26) rfl 0 kr (pt gm 0) kr _ Tryd.underlying27 rfl)
  · exact E_v 36 (fun β => pt sg 0) 28 2 [] (fun β w hk hl hq => R_cellH hl (own := false) (g := pl) (all := #[pt sg 0]) (t := 36) (fr := (0, 0)) 1 kr 36 (.tmp 0) rfl 0 kr (pt sg 0) kr _ Tryd.underlying36 rfl)
  · exact E_k 36 (fun β => pt sg 0) 29 2
  · exact E_k 36 (fun β => pt sg 33) 30 2
  · exact E_v 36 (fun β => kyV tag) 31 2 [(1, 0)] (fun β w hk hl hq => R_loadH hl (own := true) (g := sg) (all := (sgA gm seed tag pub d l)) (t := 101) (fr := (0, 0)) 0 kr 23 (.tmp 30) rfl 33 kr (arrF .u8 32 tag) (part_ext kr) _ Tryd.underlying23 rfl kr)
  · exact E_k 36 (fun β => sc r.g 0 67 r.cap) 32 2
  · exact E_callP 36 kq (fun β => kyV (shaK (endK tag (pbK seed tag) 67))) 33 rfl kq 2 (fun β r => offAt2_of kr kr) 55 (fun β => #[pt gm 0, kyV tag, sc r.g 0 67 r.cap]) (fun β w => kr) 2 [] 0 0 _ _ rfl rfl kr kr rfl (fun β w hk hl hq hm => ends_any gm c tag ht (pbK seed tag) (pbK_lt seed tag) r.g r.cap hO.le _ _ (hW.kept hk h00 h01) hm (hl.at_ (k := 0) rfl))
  · exact E_k 36 (fun β => pt sg 0) 34 2
  · exact E_k 36 (fun β => pt sg 68) 35 2
  · exact E_store 36 kq rfl 2 [] 1 0 _ _ rfl rfl kr rfl (fun _ => trivial) (fun β w hk hl hq hm => let ⟨w', h1, h2, h3⟩ := P_part (off := 68) (cs := (arrF .u8 32 (shaK (endK tag (pbK seed tag) 67)))) (old := (sgA gm seed tag pub d l)) rfl kr (ty := 23) (x := (.tmp 35)) (y := (.tmp 33)) rfl kr kr kr (Nat.le_of_ble_eq_true kr) kr hm; ⟨w', h1, h2, h3⟩)
  clear F H; intro β a v Q F H
  replace H : Hp [gm, sg] w [bk gm (mtr (β 10).n) 91, bk sg (#[pt gm 0] ++ (arrF .u8 32 seed) ++ (arrF .u8 32 tag) ++ #[.int .u32 d, .int .i32 l, .int .u32 0] ++ (arrF .u8 32 (shaK (endK tag (pbK seed tag) 67)))) 101, bk r.g (sl (keysC (pbK seed tag) 67) r.rest) 23, br pl #[pt sg 0] 36] v := H
  replace F : Fm 36 [] [(35, pt sg 68), (34, pt sg 0), (33, kyV (shaK (endK tag (pbK seed tag) 67))), (32, sc r.g 0 67 r.cap), (31, kyV tag), (30, pt sg 33), (29, pt sg 0), (28, pt sg 0), (27, pt gm 0), (26, pt sg 0), (25, pt sg 0), (24, pt sg 0), (23, pt sg 0), (4, .bool false), (3, ni 67), (1, sc r.g 0 67 r.cap), (0, pt pl 0)] a := F.weak _ (subL_of kr)
  clear Q
  generalize β 10 = rq22 at F H
  skip
  refine ?_
  skip
  have hsg : (((#[pt gm 0] ++ (arrF .u8 32 seed) ++ (arrF .u8 32 tag) ++ #[.int .u32 d, .int .i32 l, .int .u32 0] ++ (arrF .u8 32 (shaK (endK tag (pbK seed tag) 67))))) : Array Value) = sgA gm seed tag (shaK (endK tag (pbK seed tag) 67)) d l := by
    generalize (shaK (endK tag (pbK seed tag) 67)) = pk
    kernel_rfl
  rw [hsg] at H
  exact C_end F rfl ⟨⟨0, 0, [], rq22.n⟩, rfl, trivial, H.kept, H.at_ (k := 0) rfl, H.at_ (k := 1) rfl⟩
end Go.Proofs.YtdejhenkdbjakaaDoor
