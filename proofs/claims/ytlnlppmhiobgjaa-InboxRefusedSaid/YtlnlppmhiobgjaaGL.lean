/- Slices of slices whose beginning goes on; inbox.Room, Put. -/
import Derived.Test.YtlnlppmhiobgjaaGI
import Derived.Deep.AppendSrc
set_option linter.unusedVariables false
set_option linter.unusedSimpArgs false
namespace Go.Proofs.Ytlnlppmhiobgjaa
open Go Go.RowKit
/-- A row of one-cell elements in the midst of a block: r.n the place of the first one, r.rest all cells. -/
def OwnO (vs : List Value) (r : SlR) (n : Nat) : Prop := ∃ pre rest : List Value, r.rest = pre ++ vs ++ rest ∧ pre.length = r.n ∧ vs.length = n ∧ n + rest.length = r.cap ∧ r.cap ≤ maxLen
theorem OwnO.le {vs : List Value} {r : SlR} {n : Nat} (h : OwnO vs r n) : n ≤ r.cap := by obtain ⟨_, _, _, _, _, h5, _⟩ := h; omega
theorem OwnO.len {vs : List Value} {r : SlR} {n : Nat} (h : OwnO vs r n) : vs.length = n := by obtain ⟨_, _, _, _, h4, _⟩ := h; exact h4
theorem OwnO.at_ {vs : List Value} {r : SlR} {n : Nat} (h : OwnO vs r n) {k : Nat} {v : Value} (hv : vs[k]? = some v) : (r.rest.toArray)[r.n + k]? = some v := by
  obtain ⟨pre, rest, h1, h2, h3, _⟩ := h
  have hk := (List.getElem?_eq_some_iff.1 hv).1
  rw [List.getElem?_toArray, h1, List.append_assoc, List.getElem?_append_right (by omega), ← h2, Nat.add_sub_cancel_left, List.getElem?_append_left hk]
  exact hv
theorem OwnO.rdb {vs : List Value} {r : SlR} {n : Nat} {w : World} {e : TypeId} (h : OwnO vs r n) (hg : w.heap[r.g]? = some (.cells r.rest.toArray e (0, 0))) : RdB w r.g r.n vs :=
  RdB.of hg (fun _ _ hj => h.at_ hj)
theorem OwnO.tail {v : Value} {vs : List Value} {r : SlR} {n : Nat} (h : OwnO (v :: vs) r (n + 1)) : OwnO vs ⟨r.g, r.cap - 1, r.rest, r.n + 1⟩ n := by
  obtain ⟨pre, rest, h1, h2, h3, h4, h5⟩ := h
  simp only [List.length_cons] at h3
  refine ⟨pre ++ [v], rest, by rw [h1]; simp, by rw [List.length_append]; exact congrArg (· + 1) h2, by omega, by show n + _ = r.cap - 1; omega, by show r.cap - 1 ≤ _; omega⟩
section
variable {P : Program}
theorem run_appO {w : World} {t ty e : TypeId} {bytes : Nat} (ht : P.underlying t = some (.slice e)) (hi0 : infoB P e 1 bytes = true) {r : SlR} {m0 : Nat} {vs : List Value} (own : OwnO vs r m0) (hg : w.heap[r.g]? = some (.cells r.rest.toArray e (0, 0)))
    {x : Value} {m : Nat} {news : List Value} (hx : RdS w x m news) (hl : news.length = m) (h1 : ∀ u ∈ news, u.oneCell' = true) (h63 : m0 + m ≤ maxLen) (hbytes : (m0 + m) * bytes ≤ 140737488355328) :
    ∃ (q : SlR) (w' : World), (Builtin.append_ #[t, t] ty #[.slice (some ⟨r.g, r.n, none⟩) m0 r.cap, x]).run P w = .ok (.slice (some ⟨q.g, q.n, none⟩) (m0 + m) q.cap) w' ∧ OwnO (vs ++ news) q (m0 + m) ∧
      w'.heap[q.g]? = some (.cells q.rest.toArray e (0, 0)) ∧ ((q.g = r.g ∧ Kept [r.g] w w') ∨ (w.heap.size ≤ q.g ∧ Kept [] w w')) := by
  obtain ⟨i, z, hi, hz, hs, hb, hzs, hsz⟩ := infoB_spec hi0
  subst hb
  obtain ⟨pre, rest, o1, o2, o3, o4, o5⟩ := own
  have hsrc : Src P i.size t x m news w := by
    rw [hs]
    rcases hx with ⟨rfl, rfl, rfl⟩ | ⟨ad, c, rfl, hmc, hnews⟩
    · exact Src.ofNil w ht 0
    · exact Src.ofSlice w ht ad m c news (by rw [hl, Nat.mul_one]) hnews h1
  by_cases hroom : m0 + m ≤ r.cap
  · have hsize : r.rest.toArray.size = r.n + r.cap := by rw [List.size_toArray, o1, List.length_append, List.length_append]; omega
    have hr := run_append_room_src (P := P) w t t ty e i ht hi r.g r.n m0 r.cap x m news hsrc hroom (fun j hj => by
      rw [cell_of_row w r.g _ _ e (0, 0) hg, Array.getElem?_eq_getElem (by rw [hsize, hs]; omega)]; rfl) (fun j hj => frozen_of_row w r.g _ _ e hg)
    rw [hs, Nat.mul_one] at hr
    obtain ⟨k, hk⟩ := kept_store r.g e news r.rest.toArray (r.n + m0) w hg (by rw [hsize]; omega)
    have hcells : spl r.rest.toArray (r.n + m0) news = (pre ++ (vs ++ news) ++ rest.drop m).toArray := by
      have h := spl_sl news (pre ++ vs ++ rest) [] (r.n + m0) (by rw [List.length_append, List.length_append]; omega)
      unfold sl at h
      rw [List.append_nil, List.append_nil] at h
      rw [o1, h]
      congr 1
      rw [show r.n + m0 = (pre ++ vs).length by rw [List.length_append]; omega, List.take_left, List.drop_append, hl]
      simp
    rw [hcells] at hk
    refine ⟨⟨r.g, r.cap, pre ++ (vs ++ news) ++ rest.drop m, r.n⟩, _, hr, ⟨pre, rest.drop m, rfl, o2, by rw [List.length_append]; omega, ?_, o5⟩, hk, .inl ⟨rfl, k⟩⟩
    show m0 + m + _ = r.cap
    rw [List.length_drop]; omega
  · have hold : (Builtin.firstCells i.size m0 (.slice (some ⟨r.g, r.n, none⟩) m0 r.cap)).run P w.drew = .ok vs.toArray w.drew :=
      run_firstCells_some w.drew i.size m0 _ m0 r.cap vs (by rw [hs, Nat.mul_one]; exact o3) (fun j v hj => by
        have hadd : (⟨r.g, r.n, none⟩ : Addr).add j = ⟨r.g, r.n + j, none⟩ := by unfold Addr.add; split <;> simp_all
        rw [hadd]
        exact OwnO.rdb ⟨pre, rest, o1, o2, o3, o4, o5⟩ hg j v hj)
    have hr := run_append_grow_src (P := P) w t t ty e i z ht hi hz (some ⟨r.g, r.n, none⟩) m0 r.cap vs hold x m news hsrc (by omega) (by simp only [maxLen] at h63; omega) (growslice_fits (by omega) hbytes)
    have hge := grownCap_ge w (m0 + m) r.cap e
    have hcm : grownCap w (m0 + m) r.cap e ≤ maxLen := grownCap_le_maxLen w (m0 + m) r.cap e h63
    refine ⟨⟨w.heap.size, grownCap w (m0 + m) r.cap e, (vs ++ news) ++ (Builtin.zeroCells z.cells (grownCap w (m0 + m) r.cap e - (m0 + m))).toList, 0⟩, _, hr, ⟨[], _, by rw [List.nil_append], rfl, by rw [List.length_append]; omega, ?_, hcm⟩, ?_, .inr ⟨Nat.le_refl _, ?_⟩⟩
    · show m0 + m + _ = grownCap w (m0 + m) r.cap e
      rw [Array.length_toList, size_zeroCells, hzs, Nat.mul_one]; omega
    · refine (heap_alloc_new w.drew _).trans ?_
      congr 2
      simp
    · exact (Kept.drew w).trans (by simp) (Kept.alloc _ _)
theorem run_appO0 {w : World} {t ty e : TypeId} {bytes : Nat} (ht : P.underlying t = some (.slice e)) (hi0 : infoB P e 1 bytes = true) (ad : Option Addr)
    {x : Value} {m : Nat} {news : List Value} (hx : RdS w x m news) (hl : news.length = m) (h1 : ∀ u ∈ news, u.oneCell' = true) (h0 : 0 < m) (h63 : m ≤ maxLen) (hbytes : m * bytes ≤ 140737488355328) :
    ∃ (q : SlR) (w' : World), (Builtin.append_ #[t, t] ty #[.slice ad 0 0, x]).run P w = .ok (.slice (some ⟨q.g, q.n, none⟩) m q.cap) w' ∧ OwnO news q m ∧
      w'.heap[q.g]? = some (.cells q.rest.toArray e (0, 0)) ∧ (w.heap.size ≤ q.g ∧ Kept [] w w') := by
  obtain ⟨i, z, hi, hz, hs, hb, hzs, hsz⟩ := infoB_spec hi0
  subst hb
  have hsrc : Src P i.size t x m news w := by
    rw [hs]
    rcases hx with ⟨rfl, rfl, rfl⟩ | ⟨a, c, rfl, hmc, hnews⟩
    · exact Src.ofNil w ht 0
    · exact Src.ofSlice w ht a m c news (by rw [hl, Nat.mul_one]) hnews h1
  have hold : (Builtin.firstCells i.size 0 (.slice ad 0 0)).run P w.drew = .ok ([] : List Value).toArray w.drew := by
    cases ad with
    | none => exact run_firstCells_none w.drew i.size 0 0 0
    | some a => exact run_firstCells_some w.drew i.size 0 a 0 0 [] (by simp) (fun j v hj => by simp at hj)
  have hr := run_append_grow_src (P := P) w t t ty e i z ht hi hz ad 0 0 [] hold x m news hsrc (by omega) (by simp only [maxLen] at h63; omega) (growslice_fits (by omega) (by rw [Nat.zero_add]; exact hbytes))
  simp only [Nat.zero_add] at hr
  have hge := grownCap_ge w m 0 e
  have hcm : grownCap w m 0 e ≤ maxLen := grownCap_le_maxLen w m 0 e h63
  refine ⟨⟨w.heap.size, grownCap w m 0 e, news ++ (Builtin.zeroCells z.cells (grownCap w m 0 e - m)).toList, 0⟩, _, hr, ⟨[], _, by rw [List.nil_append], rfl, hl, ?_, hcm⟩, ?_, ⟨Nat.le_refl _, ?_⟩⟩
  · show m + _ = grownCap w m 0 e
    rw [Array.length_toList, size_zeroCells, hzs, Nat.mul_one]; omega
  · refine (heap_alloc_new w.drew _).trans ?_
    congr 2
    simp
  · exact (Kept.drew w).trans (by simp) (Kept.alloc _ _)
end
section
variable {P : Program} {ops : Array Oper} {Q : Exit → Act → World → Prop} {rest : List Oper} {o : Oper} {a : Act} {w w0 : World} {n : Nat} {ds : List Deferred} {V : List (Nat × Value)} {X : List Nat} {L : List Blk}
theorem T_appO (F : Fm n ds V a) (H : Hp X w0 L w) (hc0 : opB ops V n o = true) (t e : TypeId) (s x : Operand) (ho : o.op = .call { callee := .builtin .append, args := #[s, x], argTypes := #[t, t] }) (bytes : Nat) (ht : P.underlying t = some (.slice e)) (hi : infoB P e 1 bytes = true)
    (k : Nat) {r : SlR} {vs : List Value} (hl : L[k]? = some ⟨true, r.g, .cells r.rest.toArray e (0, 0)⟩) {m0 : Nat} (own : OwnO vs r m0) (hs : evV V s = .slice (some ⟨r.g, r.n, none⟩) m0 r.cap)
    (m : Nat) (news : List Value) (hx : ∀ w, Kept X w0 w → HeldL L w → RdS w (evV V x) m news) (hnl : news.length = m) (h1 : ∀ u ∈ news, u.oneCell' = true) (h63 : m0 + m ≤ maxLen) (hbytes : (m0 + m) * bytes ≤ 140737488355328) (L1 : List Blk) (hL : L.eraseIdx k = L1)
    (h : ∀ (q : SlR) a w, OwnO (vs ++ news) q (m0 + m) → Fm n ds (upV V o.dst (.slice (some ⟨q.g, q.n, none⟩) (m0 + m) q.cap)) a → Hp X w0 (⟨true, q.g, .cells q.rest.toArray e (0, 0)⟩ :: L1) w → wpList P ops Q rest a w) : wpList P ops Q (o :: rest) a w := by
  obtain ⟨hg, hk, hd0⟩ := opB_spec hc0
  refine T_core F hg hk fun K hK => ?_
  obtain ⟨q, w', h2, h3, h4, h5⟩ := run_appO (ty := o.type) ht hi own (H.at_ hl) (hx w H.kept ⟨H.held⟩) hnl h1 h63 hbytes
  rw [exec_append ho hs rfl h2, Oper.upon_value]
  refine hK _ _ (h q _ _ h3 (F.put _ _ hd0) ?_)
  subst hL
  rcases h5 with ⟨e1, h6⟩ | ⟨h6, h7⟩
  · rw [e1] at h4 ⊢
    exact (H.put hl h6 h4).front (List.getElem?_eq_some_iff.1 hl).1
  · exact (H.weak (List.eraseIdx_sublist _ _)).fresh h7 h6 h4
theorem T_appO0 (F : Fm n ds V a) (H : Hp X w0 L w) (hc0 : opB ops V n o = true) (t e : TypeId) (s x : Operand) (ho : o.op = .call { callee := .builtin .append, args := #[s, x], argTypes := #[t, t] }) (bytes : Nat) (ht : P.underlying t = some (.slice e)) (hi : infoB P e 1 bytes = true)
    (ad : Option Addr) (hs : evV V s = .slice ad 0 0)
    (m : Nat) (news : List Value) (hx : ∀ w, Kept X w0 w → HeldL L w → RdS w (evV V x) m news) (hnl : news.length = m) (h1 : ∀ u ∈ news, u.oneCell' = true) (h0 : 0 < m) (h63 : m ≤ maxLen) (hbytes : m * bytes ≤ 140737488355328)
    (h : ∀ (q : SlR) a w, OwnO news q m → Fm n ds (upV V o.dst (.slice (some ⟨q.g, q.n, none⟩) m q.cap)) a → Hp X w0 (⟨true, q.g, .cells q.rest.toArray e (0, 0)⟩ :: L) w → wpList P ops Q rest a w) : wpList P ops Q (o :: rest) a w := by
  obtain ⟨hg, hk, hd0⟩ := opB_spec hc0
  refine T_core F hg hk fun K hK => ?_
  obtain ⟨q, w', h2, h3, h4, h5, h6⟩ := run_appO0 (ty := o.type) ht hi ad (hx w H.kept ⟨H.held⟩) hnl h1 h0 h63 hbytes
  rw [exec_append ho hs rfl h2, Oper.upon_value]
  exact hK _ _ (h q _ _ h3 (F.put _ _ hd0) (H.fresh h6 h5 h4))
end

set_option maxRecDepth 100000 in
set_option maxHeartbeats 4000000 in
theorem room_any (xb n c : Nat) (ua : Option Addr) (hv : Value) (hn : n ≤ 8) (w : World) (hx : w.heap[xb]? = some (.cells #[hv, .slice ua n c] 28 (0, 0))) : Calls Try.prog 9 #[.pointer (some ⟨xb, 0, none⟩)] w fun e w' => e = .returned (.int .i64 ((8 - n : Nat) : Int)) ∧ Kept [] w w' := by
  refine C_enter Try.func9 rfl 9 Try.ntmps9 (Nat.le_of_ble_eq_true rfl) (fun a F => ?_)
  have H := Hp.start1 [] hx
  replace F : Fm 9 [] [(0, pt xb 0)] a := F.weak _ (subL_of kr)
  refine C_seqK (fun K1 hK1 => ?_)
  refine C_region ?_
  refine T_k F H (ni 0) ?_
  clear F; intro a F
  refine wpList_nil ?_
  refine hK1 _ _ ?_
  clear hK1
  try clear K1
  refine C_seqK (fun K2 hK2 => ?_)
  refine C_region ?_
  refine T_k F H (pt xb 0) ?_
  clear F; intro a F
  refine T_k F H (pt xb 0) ?_
  clear F; intro a F
  refine T_k F H (pt xb 1) ?_
  clear F; intro a F
  refine T_val F H kr (.slice ua n c) (R_cell  0 rfl 26 (.tmp 5) rfl 1 kr (.slice ua n c) kr _ Try.underlying26 rfl) ?_
  clear F; intro a F
  refine T_k F H (ni n) ?_
  clear F; intro a F
  refine T_val F H kr (ni (8 - n)) (fun w _ => R_bin (x := (.const (.int .i64 8))) (y := (.tmp 7)) rfl (k := .i64) (a := ((8 : Nat) : Int)) (b := ((n : Nat) : Int)) kr kr (i_subn64 (a := 8) (b := n) hn (by omega)) w) ?_
  clear F; intro a F
  refine T_k F H (ni (8 - n)) ?_
  clear F; intro a F
  refine wpList_nil ?_
  refine hK2 _ _ ?_
  clear hK2
  try clear K2
  refine wp_ret ?_
  exact C_ret F H (rs := [.tmp 2]) rfl (vs := [ni (8 - n)]) (.tmp rfl .nil) (ni (8 - n)) rfl ⟨rfl, H.kept⟩

set_option maxRecDepth 100000 in
set_option maxHeartbeats 4000000 in
theorem put_nb_nil (xb : Nat) (hv : Value) (ad : Option Addr) (w : World) (hx : w.heap[xb]? = some (.cells #[hv, .slice ad 0 0] 28 (0, 0))) : Calls Try.prog 10 #[.pointer (some ⟨xb, 0, none⟩), .slice none 0 0] w fun e w' => ∃ (q : SlR) (c : Cl), e = .returned (.int .i64 0) ∧ c.l = [] ∧ c.ok ∧ OwnO [c.v] q 1 ∧ Hp [xb] w (⟨true, xb, .cells #[hv, .slice (some ⟨q.g, q.n, none⟩) 1 q.cap] 28 (0, 0)⟩ :: ⟨true, q.g, .cells q.rest.toArray 30 (0, 0)⟩ :: c.blks) w' := by
  refine C_enter Try.func10 rfl 19 Try.ntmps10 (Nat.le_of_ble_eq_true rfl) (fun a F => ?_)
  have H : Hp [xb] w [bk xb #[hv, .slice ad 0 0] 28] w := Hp.startX1 hx
  replace F : Fm 19 [] [(0, pt xb 0), (1, .slice none 0 0)] a := F.weak _ (subL_of kr)
  refine C_seqK (fun K1 hK1 => ?_)
  refine C_region ?_
  refine T_k F H (ni 0) ?_
  clear F; intro a F
  refine wpList_nil ?_
  refine hK1 _ _ ?_
  clear hK1
  try clear K1
  refine C_seqK (fun K2 hK2 => ?_)
  refine C_seqK (fun K3 hK3 => ?_)
  refine C_region ?_
  refine T_k F H (pt xb 0) ?_
  clear F; intro a F
  refine T_call F H kr 9 #[pt xb 0] (ni (8 - 0)) (fun w => kr) (room_any xb 0 0 ad hv (Nat.zero_le _) _ (H.at_ (k := 0) rfl)) ?_
  clear F H; intro a v F H
  refine T_val F H kr (.bool false) (fun w _ => R_bin (x := (.tmp 6)) (y := (.const (.int .i64 0))) rfl (k := .i64) (a := (((8 - 0) : Nat) : Int)) (b := ((0 : Nat) : Int)) kr kr (i_eqd.trans (by rw [decide_eq_false (by omega)])) w) ?_
  clear F; intro a F
  refine wpList_nil ?_
  refine hK3 _ _ ?_
  clear hK3
  try clear K3
  refine C_if F false rfl rfl ?_
  refine wp_skip ?_
  refine hK2 _ _ ?_
  clear hK2
  try clear K2
  refine C_seqK (fun K4 hK4 => ?_)
  refine E_region F H (fun β => [(8, pt xb 0), (9, pt xb 0), (10, pt xb 0), (11, pt xb 1), (12, .slice ad 0 0), (13, .slice none 0 0), (14, .slice none 0 0), (15, sc ((β 7).g) 0 1 1), (16, sc ((β 8).g) ((β 8).n) 1 (β 8).cap), (17, pt xb 0), (18, pt xb 1)]) [8, 9, 10, 11, 12, 13, 14, 15, 16, 17, 18] [⟨some 7, none, 0, [], fun q_ => ce #[.slice none 0 0] 30, gT, []⟩,
    ⟨some 8, none, 0, [8], fun q_ => ce ((gh q_ 0).rest.toArray) 30, fun q_ => OwnO ([.slice none 0 0]) (gh q_ 0) (1), []⟩,
    ⟨none, none, xb, [], fun q_ => ce #[hv, .slice ad 0 0] 28, gT, [⟨11, [8], fun q_ => ce #[hv, sc ((gh q_ 0).g) ((gh q_ 0).n) 1 (gh q_ 0).cap] 28, gT⟩]⟩] [] [0] 2 [] kr kr kr (fun β => rfl) ⟨fun h _ => Bool.noConfusion h, ⟨fun h _ => Bool.noConfusion h, ⟨fun _ _ => trivial, trivial⟩⟩⟩ ⟨?_, ?_, ?_, ?_, ?_, ?_, ?_, ?_, ?_, ?_, ?_, ?_, trivial⟩ ?_
  · exact E_k 19 (fun β => pt xb 0) 8 2
  · exact E_k 19 (fun β => pt xb 0) 9 2
  · exact E_k 19 (fun β => pt xb 0) 10 2
  · exact E_k 19 (fun β => pt xb 1) 11 2
  · exact E_v 19 (fun β => .slice ad 0 0) 12 2 [(2, 0)] (fun β w hk hl hq => R_cellH hl (own := true) (g := xb) (all := #[hv, .slice ad 0 0]) (t := 28) (fr := (0, 0)) 0 kr 26 (.tmp 11) rfl 1 kr (.slice ad 0 0) kr _ Try.underlying26 rfl)
  · exact E_k 19 (fun β => .slice none 0 0) 13 2
  · exact E_call 19 kq (fun β => .slice none 0 0) 14 rfl kq 29 (fun β => #[.slice none 0 0]) (fun β w => kr) 2 [] kr rfl (fun β w hk hl hq => clone_nil _)
  · exact E_new 19 kq (fun β => sc ((β 7).g) 0 1 1) 15 rfl kq 2 (fun β r => offAt2_of kr kr) 2 [] 0 _ rfl kr kr rfl (fun β w hk hl hq => ⟨⟨w.heap.size, 0, [], 0⟩, _, (R_buildS (len := 1) rfl Try.underlying26 (#[.slice none 0 0]) kr w), trivial, Nat.le_refl _, heap_alloc_new _ _, Kept.alloc _ _⟩)
  · exact E_new 19 kq (fun β => sc ((β 8).g) ((β 8).n) 1 (β 8).cap) 16 rfl kq 2 (fun β r => offAt2_of kr kr) 2 [(0, 0)] 1 _ rfl kr kr rfl (fun β w hk hl hq => let ⟨r', w', h1, h2, h3, h4, h5⟩ := run_appO0 (bytes := 24) (t := 26) (e := 30) kr kr ad (x := sc ((β 7).g) 0 1 1) (m := 1) (news := [.slice none 0 0]) (RdS.all (hl.at_ (k := 0) rfl) (Nat.le_refl _)) rfl (by intro u hu; simp only [List.mem_cons, List.not_mem_nil, or_false] at hu; first | (subst hu; rfl) | (rcases hu with rfl | rfl | rfl <;> rfl)) (by decide) (by simp only [maxLen]; decide) (by decide); ⟨r', w', exec_append (s := (.tmp 12)) (x := (.tmp 15)) rfl kr rfl h1, h2, h4, h3, h5⟩)
  · exact E_k 19 (fun β => pt xb 0) 17 2
  · exact E_k 19 (fun β => pt xb 1) 18 2
  · exact E_store 19 kq rfl 2 [] 2 0 _ _ rfl rfl kr rfl (fun _ => trivial) (fun β w hk hl hq hm => let ⟨w', h1, h2, h3⟩ := P_cell (off := 1) (old := #[hv, .slice ad 0 0]) (v := sc ((β 8).g) ((β 8).n) 1 (β 8).cap) (Z := ce #[hv, .slice ad 0 0] 28) (R := ce #[hv, sc ((β 8).g) ((β 8).n) 1 (β 8).cap] 28) rfl rfl (ty := 26) (x := (.tmp 18)) (y := (.tmp 16)) rfl kr kr rfl (Nat.le_of_ble_eq_true rfl) Try.underlying26 rfl kr hm; ⟨w', h1, h2, h3⟩)
  clear F H; intro β a v Q F H
  replace H : Hp [xb] w [bk ((β 7).g) #[.slice none 0 0] 30, bk ((β 8).g) ((β 8).rest.toArray) 30, bk xb #[hv, sc ((β 8).g) ((β 8).n) 1 (β 8).cap] 28] v := H
  replace F : Fm 19 [] [(18, pt xb 1), (17, pt xb 0), (16, sc ((β 8).g) ((β 8).n) 1 (β 8).cap), (15, sc ((β 7).g) 0 1 1), (14, .slice none 0 0), (13, .slice none 0 0), (12, .slice ad 0 0), (11, pt xb 1), (10, pt xb 0), (9, pt xb 0), (8, pt xb 0), (7, .bool false), (6, ni (8 - 0)), (5, pt xb 0), (4, ni 0), (0, pt xb 0), (1, .slice none 0 0)] a := F.weak _ (subL_of kr)
  have Qh6_1 : OwnO ([.slice none 0 0]) (β 8) (1) := Q.2.2.1
  clear Q
  generalize β 7 = rq5 at F H Qh6_1
  generalize β 8 = rq6 at F H Qh6_1
  skip
  refine ?_
  refine hK4 _ _ ?_
  clear hK4
  try clear K4
  refine C_seqK (fun K7 hK7 => ?_)
  refine C_region ?_
  refine T_k F H (ni 0) ?_
  clear F; intro a F
  refine wpList_nil ?_
  refine hK7 _ _ ?_
  clear hK7
  try clear K7
  refine wp_ret ?_
  exact C_ret F H (rs := [.tmp 4]) rfl (vs := [ni 0]) (.tmp rfl .nil) (ni 0) rfl ⟨rq6, ⟨true, 0, 0, [], []⟩, rfl, rfl, ⟨Nat.zero_le _, fun _ => rfl, fun e => by cases e⟩, Qh6_1, H.pick [2, 1] kr _ rfl⟩

set_option maxRecDepth 100000 in
set_option maxHeartbeats 4000000 in
theorem put_nb_some (xb : Nat) (hv : Value) (ad : Option Addr) (bq : Addr) (bc : Nat) (l : List Nat) (hbig : l.length ≤ 140737488355328) (w : World) (hx : w.heap[xb]? = some (.cells #[hv, .slice ad 0 0] 28 (0, 0))) (hb : Sv.RdK [xb] w ⟨some bq, bc, l⟩) : Calls Try.prog 10 #[.pointer (some ⟨xb, 0, none⟩), .slice (some bq) l.length bc] w fun e w' => ∃ (q : SlR) (c : Cl), e = .returned (.int .i64 0) ∧ c.l = l ∧ c.ok ∧ OwnO [c.v] q 1 ∧ Hp [xb] w (⟨true, xb, .cells #[hv, .slice (some ⟨q.g, q.n, none⟩) 1 q.cap] 28 (0, 0)⟩ :: ⟨true, q.g, .cells q.rest.toArray 30 (0, 0)⟩ :: c.blks) w' := by
  refine C_enter Try.func10 rfl 19 Try.ntmps10 (Nat.le_of_ble_eq_true rfl) (fun a F => ?_)
  have H : Hp [xb] w [bk xb #[hv, .slice ad 0 0] 28] w := Hp.startX1 hx
  replace F : Fm 19 [] [(0, pt xb 0), (1, .slice (some bq) l.length bc)] a := F.weak _ (subL_of kr)
  refine C_seqK (fun K1 hK1 => ?_)
  refine C_region ?_
  refine T_k F H (ni 0) ?_
  clear F; intro a F
  refine wpList_nil ?_
  refine hK1 _ _ ?_
  clear hK1
  try clear K1
  refine C_seqK (fun K2 hK2 => ?_)
  refine C_seqK (fun K3 hK3 => ?_)
  refine C_region ?_
  refine T_k F H (pt xb 0) ?_
  clear F; intro a F
  refine T_call F H kr 9 #[pt xb 0] (ni (8 - 0)) (fun w => kr) (room_any xb 0 0 ad hv (Nat.zero_le _) _ (H.at_ (k := 0) rfl)) ?_
  clear F H; intro a v F H
  refine T_val F H kr (.bool false) (fun w _ => R_bin (x := (.tmp 6)) (y := (.const (.int .i64 0))) rfl (k := .i64) (a := (((8 - 0) : Nat) : Int)) (b := ((0 : Nat) : Int)) kr kr (i_eqd.trans (by rw [decide_eq_false (by omega)])) w) ?_
  clear F; intro a F
  refine wpList_nil ?_
  refine hK3 _ _ ?_
  clear hK3
  try clear K3
  refine C_if F false rfl rfl ?_
  refine wp_skip ?_
  refine hK2 _ _ ?_
  clear hK2
  try clear K2
  refine C_seqK (fun K4 hK4 => ?_)
  refine E_region F H (fun β => [(8, pt xb 0), (9, pt xb 0), (10, pt xb 0), (11, pt xb 1), (12, .slice ad 0 0), (13, .slice (some bq) l.length bc), (14, sc ((β 6).g) 0 l.length (β 6).cap), (15, sc ((β 7).g) 0 1 1), (16, sc ((β 8).g) ((β 8).n) 1 (β 8).cap), (17, pt xb 0), (18, pt xb 1)]) [8, 9, 10, 11, 12, 13, 14, 15, 16, 17, 18] [⟨some 6, none, 0, [6], fun q_ => ce (sl (oct (l)) (gh q_ 0).rest) 5, fun q_ => Own (oct (l)) (gh q_ 0).rest (l.length) (gh q_ 0).cap 1, []⟩,
    ⟨some 7, none, 0, [6], fun q_ => ce #[sc ((gh q_ 0).g) 0 l.length (gh q_ 0).cap] 30, gT, []⟩,
    ⟨some 8, none, 0, [6, 8], fun q_ => ce ((gh q_ 1).rest.toArray) 30, fun q_ => OwnO ([sc ((gh q_ 0).g) 0 l.length (gh q_ 0).cap]) (gh q_ 1) (1), []⟩,
    ⟨none, none, xb, [], fun q_ => ce #[hv, .slice ad 0 0] 28, gT, [⟨11, [8], fun q_ => ce #[hv, sc ((gh q_ 0).g) ((gh q_ 0).n) 1 (gh q_ 0).cap] 28, gT⟩]⟩] [] [0] 2 [] kr kr kr (fun β => rfl) ⟨fun h _ => Bool.noConfusion h, ⟨fun h _ => Bool.noConfusion h, ⟨fun h _ => Bool.noConfusion h, ⟨fun _ _ => trivial, trivial⟩⟩⟩⟩ ⟨?_, ?_, ?_, ?_, ?_, ?_, ?_, ?_, ?_, ?_, ?_, ?_, trivial⟩ ?_
  · exact E_k 19 (fun β => pt xb 0) 8 2
  · exact E_k 19 (fun β => pt xb 0) 9 2
  · exact E_k 19 (fun β => pt xb 0) 10 2
  · exact E_k 19 (fun β => pt xb 1) 11 2
  · exact E_v 19 (fun β => .slice ad 0 0) 12 2 [(3, 0)] (fun β w hk hl hq => R_cellH hl (own := true) (g := xb) (all := #[hv, .slice ad 0 0]) (t := 28) (fr := (0, 0)) 0 kr 26 (.tmp 11) rfl 1 kr (.slice ad 0 0) kr _ Try.underlying26 rfl)
  · exact E_k 19 (fun β => .slice (some bq) l.length bc) 13 2
  · exact E_callS 19 kq (fun β => sc ((β 6).g) 0 l.length (β 6).cap) 14 rfl kq 2 (fun β r => offAt2_of kr kr) 29 (fun β => #[.slice (some bq) l.length bc]) (fun β w => kr) 2 [] 0 _ rfl kr kr rfl (fun β w hk hl hq => clone_some bq l.length bc l rfl hbig _ ((hb _ hk).rds rfl))
  · exact E_new 19 kq (fun β => sc ((β 7).g) 0 1 1) 15 rfl kq 2 (fun β r => offAt2_of kr kr) 2 [] 1 _ rfl kr kr rfl (fun β w hk hl hq => ⟨⟨w.heap.size, 0, [], 0⟩, _, (R_buildS (len := 1) rfl Try.underlying26 (#[sc ((β 6).g) 0 l.length (β 6).cap]) kr w), trivial, Nat.le_refl _, heap_alloc_new _ _, Kept.alloc _ _⟩)
  · exact E_new 19 kq (fun β => sc ((β 8).g) ((β 8).n) 1 (β 8).cap) 16 rfl kq 2 (fun β r => offAt2_of kr kr) 2 [(1, 0)] 2 _ rfl kr kr rfl (fun β w hk hl hq => let ⟨r', w', h1, h2, h3, h4, h5⟩ := run_appO0 (bytes := 24) (t := 26) (e := 30) kr kr ad (x := sc ((β 7).g) 0 1 1) (m := 1) (news := [sc ((β 6).g) 0 l.length (β 6).cap]) (RdS.all (hl.at_ (k := 0) rfl) (Nat.le_refl _)) rfl (by intro u hu; simp only [List.mem_cons, List.not_mem_nil, or_false] at hu; first | (subst hu; rfl) | (rcases hu with rfl | rfl | rfl <;> rfl)) (by decide) (by simp only [maxLen]; decide) (by decide); ⟨r', w', exec_append (s := (.tmp 12)) (x := (.tmp 15)) rfl kr rfl h1, h2, h4, h3, h5⟩)
  · exact E_k 19 (fun β => pt xb 0) 17 2
  · exact E_k 19 (fun β => pt xb 1) 18 2
  · exact E_store 19 kq rfl 2 [] 3 0 _ _ rfl rfl kr rfl (fun _ => trivial) (fun β w hk hl hq hm => let ⟨w', h1, h2, h3⟩ := P_cell (off := 1) (old := #[hv, .slice ad 0 0]) (v := sc ((β 8).g) ((β 8).n) 1 (β 8).cap) (Z := ce #[hv, .slice ad 0 0] 28) (R := ce #[hv, sc ((β 8).g) ((β 8).n) 1 (β 8).cap] 28) rfl rfl (ty := 26) (x := (.tmp 18)) (y := (.tmp 16)) rfl kr kr rfl (Nat.le_of_ble_eq_true rfl) Try.underlying26 rfl kr hm; ⟨w', h1, h2, h3⟩)
  clear F H; intro β a v Q F H
  replace H : Hp [xb] w [bk ((β 6).g) (sl (oct (l)) (β 6).rest) 5, bk ((β 7).g) #[sc ((β 6).g) 0 l.length (β 6).cap] 30, bk ((β 8).g) ((β 8).rest.toArray) 30, bk xb #[hv, sc ((β 8).g) ((β 8).n) 1 (β 8).cap] 28] v := H
  replace F : Fm 19 [] [(18, pt xb 1), (17, pt xb 0), (16, sc ((β 8).g) ((β 8).n) 1 (β 8).cap), (15, sc ((β 7).g) 0 1 1), (14, sc ((β 6).g) 0 l.length (β 6).cap), (13, .slice (some bq) l.length bc), (12, .slice ad 0 0), (11, pt xb 1), (10, pt xb 0), (9, pt xb 0), (8, pt xb 0), (7, .bool false), (6, ni (8 - 0)), (5, pt xb 0), (4, ni 0), (0, pt xb 0), (1, .slice (some bq) l.length bc)] a := F.weak _ (subL_of kr)
  have Qh7_0 : Own (oct (l)) (β 6).rest (l.length) (β 6).cap 1 := Q.1
  have Qh7_2 : OwnO ([sc ((β 6).g) 0 l.length (β 6).cap]) (β 8) (1) := Q.2.2.2.2.1
  clear Q
  generalize β 6 = rq5 at F H Qh7_0 Qh7_2
  generalize β 7 = rq6 at F H Qh7_0 Qh7_2
  generalize β 8 = rq7 at F H Qh7_0 Qh7_2
  skip
  refine ?_
  refine hK4 _ _ ?_
  clear hK4
  try clear K4
  refine C_seqK (fun K8 hK8 => ?_)
  refine C_region ?_
  refine T_k F H (ni 0) ?_
  clear F; intro a F
  refine wpList_nil ?_
  refine hK8 _ _ ?_
  clear hK8
  try clear K8
  refine wp_ret ?_
  exact C_ret F H (rs := [.tmp 4]) rfl (vs := [ni 0]) (.tmp rfl .nil) (ni 0) rfl ⟨rq7, ⟨false, rq5.g, rq5.cap, rq5.rest, l⟩, rfl, rfl, ⟨hbig, (fun e => by cases e), fun _ => Qh7_0⟩, Qh7_2, H.pick [3, 2, 0] kr _ rfl⟩

set_option maxRecDepth 100000 in
set_option maxHeartbeats 4000000 in
theorem put_more_nil (xb : Nat) (hv : Value) (n : Nat) (r : SlR) (vs : List Value) (hn : n < 8) (w : World) (hx : w.heap[xb]? = some (.cells #[hv, .slice (some ⟨r.g, r.n, none⟩) n r.cap] 28 (0, 0))) (hg : w.heap[r.g]? = some (.cells r.rest.toArray 30 (0, 0))) (hO : OwnO vs r n) (hne : xb ≠ r.g) : Calls Try.prog 10 #[.pointer (some ⟨xb, 0, none⟩), .slice none 0 0] w fun e w' => ∃ (q : SlR) (c : Cl), e = .returned (.int .i64 0) ∧ c.l = [] ∧ c.ok ∧ OwnO (vs ++ [c.v]) q (n + 1) ∧ Hp [xb, r.g] w (⟨true, xb, .cells #[hv, .slice (some ⟨q.g, q.n, none⟩) (n + 1) q.cap] 28 (0, 0)⟩ :: ⟨true, q.g, .cells q.rest.toArray 30 (0, 0)⟩ :: c.blks) w' := by
  refine C_enter Try.func10 rfl 19 Try.ntmps10 (Nat.le_of_ble_eq_true rfl) (fun a F => ?_)
  have H : Hp [xb, r.g] w [bk xb #[hv, sc r.g r.n n r.cap] 28, bk r.g (r.rest.toArray) 30] w := Hp.startX2 hx hg hne
  replace F : Fm 19 [] [(0, pt xb 0), (1, .slice none 0 0)] a := F.weak _ (subL_of kr)
  refine C_seqK (fun K1 hK1 => ?_)
  refine C_region ?_
  refine T_k F H (ni 0) ?_
  clear F; intro a F
  refine wpList_nil ?_
  refine hK1 _ _ ?_
  clear hK1
  try clear K1
  refine C_seqK (fun K2 hK2 => ?_)
  refine C_seqK (fun K3 hK3 => ?_)
  refine C_region ?_
  refine T_k F H (pt xb 0) ?_
  clear F; intro a F
  refine T_call F H kr 9 #[pt xb 0] (ni (8 - n)) (fun w => kr) (room_any xb n r.cap (some ⟨r.g, r.n, none⟩) hv (by omega) _ (H.at_ (k := 0) rfl)) ?_
  clear F H; intro a v F H
  refine T_val F H kr (.bool false) (fun w _ => R_bin (x := (.tmp 6)) (y := (.const (.int .i64 0))) rfl (k := .i64) (a := (((8 - n) : Nat) : Int)) (b := ((0 : Nat) : Int)) kr kr (i_eqd.trans (by rw [decide_eq_false (by omega)])) w) ?_
  clear F; intro a F
  refine wpList_nil ?_
  refine hK3 _ _ ?_
  clear hK3
  try clear K3
  refine C_if F false rfl rfl ?_
  refine wp_skip ?_
  refine hK2 _ _ ?_
  clear hK2
  try clear K2
  refine C_seqK (fun K4 hK4 => ?_)
  refine E_region F H (fun β => [(8, pt xb 0), (9, pt xb 0), (10, pt xb 0), (11, pt xb 1), (12, sc r.g r.n n r.cap), (13, .slice none 0 0), (14, .slice none 0 0), (15, sc ((β 7).g) 0 1 1), (16, sc ((β 8).g) ((β 8).n) (n + 1) (β 8).cap), (17, pt xb 0), (18, pt xb 1)]) [8, 9, 10, 11, 12, 13, 14, 15, 16, 17, 18] [⟨some 7, none, 0, [], fun q_ => ce #[.slice none 0 0] 30, gT, []⟩,
    ⟨some 8, none, 0, [8], fun q_ => ce ((gh q_ 0).rest.toArray) 30, fun q_ => OwnO ((vs) ++ ([.slice none 0 0])) (gh q_ 0) ((n + 1)), []⟩,
    ⟨none, some 8, r.g, [], fun q_ => ce (r.rest.toArray) 30, gT, []⟩,
    ⟨none, none, xb, [], fun q_ => ce #[hv, sc r.g r.n n r.cap] 28, gT, [⟨11, [8], fun q_ => ce #[hv, sc ((gh q_ 0).g) ((gh q_ 0).n) (n + 1) (gh q_ 0).cap] 28, gT⟩]⟩] [] [1, 0] 2 [] kr kr kr (fun β => rfl) ⟨fun h _ => Bool.noConfusion h, ⟨fun h _ => Bool.noConfusion h, ⟨fun _ _ => trivial, ⟨fun _ _ => trivial, trivial⟩⟩⟩⟩ ⟨?_, ?_, ?_, ?_, ?_, ?_, ?_, ?_, ?_, ?_, ?_, ?_, trivial⟩ ?_
  · exact E_k 19 (fun β => pt xb 0) 8 2
  · exact E_k 19 (fun β => pt xb 0) 9 2
  · exact E_k 19 (fun β => pt xb 0) 10 2
  · exact E_k 19 (fun β => pt xb 1) 11 2
  · exact E_v 19 (fun β => sc r.g r.n n r.cap) 12 2 [(3, 0)] (fun β w hk hl hq => R_cellH hl (own := true) (g := xb) (all := #[hv, sc r.g r.n n r.cap]) (t := 28) (fr := (0, 0)) 0 kr 26 (.tmp 11) rfl 1 kr (sc r.g r.n n r.cap) kr _ Try.underlying26 rfl)
  · exact E_k 19 (fun β => .slice none 0 0) 13 2
  · exact E_call 19 kq (fun β => .slice none 0 0) 14 rfl kq 29 (fun β => #[.slice none 0 0]) (fun β w => kr) 2 [] kr rfl (fun β w hk hl hq => clone_nil _)
  · exact E_new 19 kq (fun β => sc ((β 7).g) 0 1 1) 15 rfl kq 2 (fun β r => offAt2_of kr kr) 2 [] 0 _ rfl kr kr rfl (fun β w hk hl hq => ⟨⟨w.heap.size, 0, [], 0⟩, _, (R_buildS (len := 1) rfl Try.underlying26 (#[.slice none 0 0]) kr w), trivial, Nat.le_refl _, heap_alloc_new _ _, Kept.alloc _ _⟩)
  · exact E_app 19 kq (fun β => sc ((β 8).g) ((β 8).n) (n + 1) (β 8).cap) 16 rfl kq 2 (fun β r => offAt2_of kr kr) 2 [(0, 0)] 1 1 _ _ rfl rfl kr kr rfl rfl (fun β w hk hl hq hm => let ⟨r', w', h1, h2, h3, h4⟩ := run_appO (bytes := 24) (t := 26) (e := 30) kr kr (r := r) hO hm (x := sc ((β 7).g) 0 1 1) (m := 1) (news := [.slice none 0 0]) (RdS.all (hl.at_ (k := 0) rfl) (Nat.le_refl _)) rfl (by intro u hu; simp only [List.mem_cons, List.not_mem_nil, or_false] at hu; first | (subst hu; rfl) | (rcases hu with rfl | rfl | rfl <;> rfl)) (by simp only [maxLen]; omega) (by omega); ⟨r', w', exec_append (s := (.tmp 12)) (x := (.tmp 15)) rfl kr rfl h1, h2, h3, h4⟩)
  · exact E_k 19 (fun β => pt xb 0) 17 2
  · exact E_k 19 (fun β => pt xb 1) 18 2
  · exact E_store 19 kq rfl 2 [] 3 0 _ _ rfl rfl kr rfl (fun _ => trivial) (fun β w hk hl hq hm => let ⟨w', h1, h2, h3⟩ := P_cell (off := 1) (old := #[hv, sc r.g r.n n r.cap]) (v := sc ((β 8).g) ((β 8).n) (n + 1) (β 8).cap) (Z := ce #[hv, sc r.g r.n n r.cap] 28) (R := ce #[hv, sc ((β 8).g) ((β 8).n) (n + 1) (β 8).cap] 28) rfl rfl (ty := 26) (x := (.tmp 18)) (y := (.tmp 16)) rfl kr kr rfl (Nat.le_of_ble_eq_true rfl) Try.underlying26 rfl kr hm; ⟨w', h1, h2, h3⟩)
  clear F H; intro β a v Q F H
  replace H : Hp [xb, r.g] w [bk ((β 7).g) #[.slice none 0 0] 30, bk ((β 8).g) ((β 8).rest.toArray) 30, bk xb #[hv, sc ((β 8).g) ((β 8).n) (n + 1) (β 8).cap] 28] v := H
  replace F : Fm 19 [] [(18, pt xb 1), (17, pt xb 0), (16, sc ((β 8).g) ((β 8).n) (n + 1) (β 8).cap), (15, sc ((β 7).g) 0 1 1), (14, .slice none 0 0), (13, .slice none 0 0), (12, sc r.g r.n n r.cap), (11, pt xb 1), (10, pt xb 0), (9, pt xb 0), (8, pt xb 0), (7, .bool false), (6, ni (8 - n)), (5, pt xb 0), (4, ni 0), (0, pt xb 0), (1, .slice none 0 0)] a := F.weak _ (subL_of kr)
  have Qh6_1 : OwnO ((vs) ++ ([.slice none 0 0])) (β 8) ((n + 1)) := Q.2.2.1
  clear Q
  generalize β 7 = rq5 at F H Qh6_1
  generalize β 8 = rq6 at F H Qh6_1
  skip
  refine ?_
  refine hK4 _ _ ?_
  clear hK4
  try clear K4
  refine C_seqK (fun K7 hK7 => ?_)
  refine C_region ?_
  refine T_k F H (ni 0) ?_
  clear F; intro a F
  refine wpList_nil ?_
  refine hK7 _ _ ?_
  clear hK7
  try clear K7
  refine wp_ret ?_
  exact C_ret F H (rs := [.tmp 4]) rfl (vs := [ni 0]) (.tmp rfl .nil) (ni 0) rfl ⟨rq6, ⟨true, 0, 0, [], []⟩, rfl, rfl, ⟨Nat.zero_le _, fun _ => rfl, fun e => by cases e⟩, Qh6_1, H.pick [2, 1] kr _ rfl⟩

set_option maxRecDepth 100000 in
set_option maxHeartbeats 4000000 in
theorem put_more_some (xb : Nat) (hv : Value) (n : Nat) (r : SlR) (vs : List Value) (hn : n < 8) (bq : Addr) (bc : Nat) (l : List Nat) (hbig : l.length ≤ 140737488355328) (w : World) (hx : w.heap[xb]? = some (.cells #[hv, .slice (some ⟨r.g, r.n, none⟩) n r.cap] 28 (0, 0))) (hg : w.heap[r.g]? = some (.cells r.rest.toArray 30 (0, 0))) (hO : OwnO vs r n) (hne : xb ≠ r.g) (hb : Sv.RdK [xb, r.g] w ⟨some bq, bc, l⟩) : Calls Try.prog 10 #[.pointer (some ⟨xb, 0, none⟩), .slice (some bq) l.length bc] w fun e w' => ∃ (q : SlR) (c : Cl), e = .returned (.int .i64 0) ∧ c.l = l ∧ c.ok ∧ OwnO (vs ++ [c.v]) q (n + 1) ∧ Hp [xb, r.g] w (⟨true, xb, .cells #[hv, .slice (some ⟨q.g, q.n, none⟩) (n + 1) q.cap] 28 (0, 0)⟩ :: ⟨true, q.g, .cells q.rest.toArray 30 (0, 0)⟩ :: c.blks) w' := by
  refine C_enter Try.func10 rfl 19 Try.ntmps10 (Nat.le_of_ble_eq_true rfl) (fun a F => ?_)
  have H : Hp [xb, r.g] w [bk xb #[hv, sc r.g r.n n r.cap] 28, bk r.g (r.rest.toArray) 30] w := Hp.startX2 hx hg hne
  replace F : Fm 19 [] [(0, pt xb 0), (1, .slice (some bq) l.length bc)] a := F.weak _ (subL_of kr)
  refine C_seqK (fun K1 hK1 => ?_)
  refine C_region ?_
  refine T_k F H (ni 0) ?_
  clear F; intro a F
  refine wpList_nil ?_
  refine hK1 _ _ ?_
  clear hK1
  try clear K1
  refine C_seqK (fun K2 hK2 => ?_)
  refine C_seqK (fun K3 hK3 => ?_)
  refine C_region ?_
  refine T_k F H (pt xb 0) ?_
  clear F; intro a F
  refine T_call F H kr 9 #[pt xb 0] (ni (8 - n)) (fun w => kr) (room_any xb n r.cap (some ⟨r.g, r.n, none⟩) hv (by omega) _ (H.at_ (k := 0) rfl)) ?_
  clear F H; intro a v F H
  refine T_val F H kr (.bool false) (fun w _ => R_bin (x := (.tmp 6)) (y := (.const (.int .i64 0))) rfl (k := .i64) (a := (((8 - n) : Nat) : Int)) (b := ((0 : Nat) : Int)) kr kr (i_eqd.trans (by rw [decide_eq_false (by omega)])) w) ?_
  clear F; intro a F
  refine wpList_nil ?_
  refine hK3 _ _ ?_
  clear hK3
  try clear K3
  refine C_if F false rfl rfl ?_
  refine wp_skip ?_
  refine hK2 _ _ ?_
  clear hK2
  try clear K2
  refine C_seqK (fun K4 hK4 => ?_)
  refine E_region F H (fun β => [(8, pt xb 0), (9, pt xb 0), (10, pt xb 0), (11, pt xb 1), (12, sc r.g r.n n r.cap), (13, .slice (some bq) l.length bc), (14, sc ((β 6).g) 0 l.length (β 6).cap), (15, sc ((β 7).g) 0 1 1), (16, sc ((β 8).g) ((β 8).n) (n + 1) (β 8).cap), (17, pt xb 0), (18, pt xb 1)]) [8, 9, 10, 11, 12, 13, 14, 15, 16, 17, 18] [⟨some 6, none, 0, [6], fun q_ => ce (sl (oct (l)) (gh q_ 0).rest) 5, fun q_ => Own (oct (l)) (gh q_ 0).rest (l.length) (gh q_ 0).cap 1, []⟩,
    ⟨some 7, none, 0, [6], fun q_ => ce #[sc ((gh q_ 0).g) 0 l.length (gh q_ 0).cap] 30, gT, []⟩,
    ⟨some 8, none, 0, [6, 8], fun q_ => ce ((gh q_ 1).rest.toArray) 30, fun q_ => OwnO ((vs) ++ ([sc ((gh q_ 0).g) 0 l.length (gh q_ 0).cap])) (gh q_ 1) ((n + 1)), []⟩,
    ⟨none, some 8, r.g, [], fun q_ => ce (r.rest.toArray) 30, gT, []⟩,
    ⟨none, none, xb, [], fun q_ => ce #[hv, sc r.g r.n n r.cap] 28, gT, [⟨11, [8], fun q_ => ce #[hv, sc ((gh q_ 0).g) ((gh q_ 0).n) (n + 1) (gh q_ 0).cap] 28, gT⟩]⟩] [] [1, 0] 2 [] kr kr kr (fun β => rfl) ⟨fun h _ => Bool.noConfusion h, ⟨fun h _ => Bool.noConfusion h, ⟨fun h _ => Bool.noConfusion h, ⟨fun _ _ => trivial, ⟨fun _ _ => trivial, trivial⟩⟩⟩⟩⟩ ⟨?_, ?_, ?_, ?_, ?_, ?_, ?_, ?_, ?_, ?_, ?_, ?_, trivial⟩ ?_
  · exact E_k 19 (fun β => pt xb 0) 8 2
  · exact E_k 19 (fun β => pt xb 0) 9 2
  · exact E_k 19 (fun β => pt xb 0) 10 2
  · exact E_k 19 (fun β => pt xb 1) 11 2
  · exact E_v 19 (fun β => sc r.g r.n n r.cap) 12 2 [(4, 0)] (fun β w hk hl hq => R_cellH hl (own := true) (g := xb) (all := #[hv, sc r.g r.n n r.cap]) (t := 28) (fr := (0, 0)) 0 kr 26 (.tmp 11) rfl 1 kr (sc r.g r.n n r.cap) kr _ Try.underlying26 rfl)
  · exact E_k 19 (fun β => .slice (some bq) l.length bc) 13 2
  · exact E_callS 19 kq (fun β => sc ((β 6).g) 0 l.length (β 6).cap) 14 rfl kq 2 (fun β r => offAt2_of kr kr) 29 (fun β => #[.slice (some bq) l.length bc]) (fun β w => kr) 2 [] 0 _ rfl kr kr rfl (fun β w hk hl hq => clone_some bq l.length bc l rfl hbig _ ((hb _ hk).rds rfl))
  · exact E_new 19 kq (fun β => sc ((β 7).g) 0 1 1) 15 rfl kq 2 (fun β r => offAt2_of kr kr) 2 [] 1 _ rfl kr kr rfl (fun β w hk hl hq => ⟨⟨w.heap.size, 0, [], 0⟩, _, (R_buildS (len := 1) rfl Try.underlying26 (#[sc ((β 6).g) 0 l.length (β 6).cap]) kr w), trivial, Nat.le_refl _, heap_alloc_new _ _, Kept.alloc _ _⟩)
  · exact E_app 19 kq (fun β => sc ((β 8).g) ((β 8).n) (n + 1) (β 8).cap) 16 rfl kq 2 (fun β r => offAt2_of kr kr) 2 [(1, 0)] 2 2 _ _ rfl rfl kr kr rfl rfl (fun β w hk hl hq hm => let ⟨r', w', h1, h2, h3, h4⟩ := run_appO (bytes := 24) (t := 26) (e := 30) kr kr (r := r) hO hm (x := sc ((β 7).g) 0 1 1) (m := 1) (news := [sc ((β 6).g) 0 l.length (β 6).cap]) (RdS.all (hl.at_ (k := 0) rfl) (Nat.le_refl _)) rfl (by intro u hu; simp only [List.mem_cons, List.not_mem_nil, or_false] at hu; first | (subst hu; rfl) | (rcases hu with rfl | rfl | rfl <;> rfl)) (by simp only [maxLen]; omega) (by omega); ⟨r', w', exec_append (s := (.tmp 12)) (x := (.tmp 15)) rfl kr rfl h1, h2, h3, h4⟩)
  · exact E_k 19 (fun β => pt xb 0) 17 2
  · exact E_k 19 (fun β => pt xb 1) 18 2
  · exact E_store 19 kq rfl 2 [] 4 0 _ _ rfl rfl kr rfl (fun _ => trivial) (fun β w hk hl hq hm => let ⟨w', h1, h2, h3⟩ := P_cell (off := 1) (old := #[hv, sc r.g r.n n r.cap]) (v := sc ((β 8).g) ((β 8).n) (n + 1) (β 8).cap) (Z := ce #[hv, sc r.g r.n n r.cap] 28) (R := ce #[hv, sc ((β 8).g) ((β 8).n) (n + 1) (β 8).cap] 28) rfl rfl (ty := 26) (x := (.tmp 18)) (y := (.tmp 16)) rfl kr kr rfl (Nat.le_of_ble_eq_true rfl) Try.underlying26 rfl kr hm; ⟨w', h1, h2, h3⟩)
  clear F H; intro β a v Q F H
  replace H : Hp [xb, r.g] w [bk ((β 6).g) (sl (oct (l)) (β 6).rest) 5, bk ((β 7).g) #[sc ((β 6).g) 0 l.length (β 6).cap] 30, bk ((β 8).g) ((β 8).rest.toArray) 30, bk xb #[hv, sc ((β 8).g) ((β 8).n) (n + 1) (β 8).cap] 28] v := H
  replace F : Fm 19 [] [(18, pt xb 1), (17, pt xb 0), (16, sc ((β 8).g) ((β 8).n) (n + 1) (β 8).cap), (15, sc ((β 7).g) 0 1 1), (14, sc ((β 6).g) 0 l.length (β 6).cap), (13, .slice (some bq) l.length bc), (12, sc r.g r.n n r.cap), (11, pt xb 1), (10, pt xb 0), (9, pt xb 0), (8, pt xb 0), (7, .bool false), (6, ni (8 - n)), (5, pt xb 0), (4, ni 0), (0, pt xb 0), (1, .slice (some bq) l.length bc)] a := F.weak _ (subL_of kr)
  have Qh7_0 : Own (oct (l)) (β 6).rest (l.length) (β 6).cap 1 := Q.1
  have Qh7_2 : OwnO ((vs) ++ ([sc ((β 6).g) 0 l.length (β 6).cap])) (β 8) ((n + 1)) := Q.2.2.2.2.1
  clear Q
  generalize β 6 = rq5 at F H Qh7_0 Qh7_2
  generalize β 7 = rq6 at F H Qh7_0 Qh7_2
  generalize β 8 = rq7 at F H Qh7_0 Qh7_2
  skip
  refine ?_
  refine hK4 _ _ ?_
  clear hK4
  try clear K4
  refine C_seqK (fun K8 hK8 => ?_)
  refine C_region ?_
  refine T_k F H (ni 0) ?_
  clear F; intro a F
  refine wpList_nil ?_
  refine hK8 _ _ ?_
  clear hK8
  try clear K8
  refine wp_ret ?_
  exact C_ret F H (rs := [.tmp 4]) rfl (vs := [ni 0]) (.tmp rfl .nil) (ni 0) rfl ⟨rq7, ⟨false, rq5.g, rq5.cap, rq5.rest, l⟩, rfl, rfl, ⟨hbig, (fun e => by cases e), fun _ => Qh7_0⟩, Qh7_2, H.pick [3, 2, 0] kr _ rfl⟩

set_option maxRecDepth 100000 in
set_option maxHeartbeats 4000000 in
theorem put_full (xb n : Nat) (r : SlR) (hv bV : Value) (hn : n = 8) (w : World) (hx : w.heap[xb]? = some (.cells #[hv, .slice (some ⟨r.g, r.n, none⟩) n r.cap] 28 (0, 0))) : Calls Try.prog 10 #[.pointer (some ⟨xb, 0, none⟩), bV] w fun e w' => e = .returned (.int .i64 63) ∧ Kept [] w w' := by
  refine C_enter Try.func10 rfl 19 Try.ntmps10 (Nat.le_of_ble_eq_true rfl) (fun a F => ?_)
  have H := Hp.start1 [] hx
  replace F : Fm 19 [] [(0, pt xb 0), (1, bV)] a := F.weak _ (subL_of kr)
  refine C_seqK (fun K1 hK1 => ?_)
  refine C_region ?_
  refine T_k F H (ni 0) ?_
  clear F; intro a F
  refine wpList_nil ?_
  refine hK1 _ _ ?_
  clear hK1
  try clear K1
  refine C_seqK (fun K2 hK2 => ?_)
  refine C_seqK (fun K3 hK3 => ?_)
  refine C_region ?_
  refine T_k F H (pt xb 0) ?_
  clear F; intro a F
  refine T_call F H kr 9 #[pt xb 0] (ni (8 - n)) (fun w => kr) (room_any xb n r.cap (some ⟨r.g, r.n, none⟩) hv (by omega) _ (H.at_ (k := 0) rfl)) ?_
  clear F H; intro a v F H
  refine T_val F H kr (.bool true) (fun w _ => R_bin (x := (.tmp 6)) (y := (.const (.int .i64 0))) rfl (k := .i64) (a := (((8 - n) : Nat) : Int)) (b := ((0 : Nat) : Int)) kr kr (i_eqd.trans (by rw [decide_eq_true (by omega)])) w) ?_
  clear F; intro a F
  refine wpList_nil ?_
  refine hK3 _ _ ?_
  clear hK3
  try clear K3
  refine C_if F true rfl rfl ?_
  refine C_seqK (fun K4 hK4 => ?_)
  refine C_region ?_
  refine T_k F H (ni 63) ?_
  clear F; intro a F
  refine wpList_nil ?_
  refine hK4 _ _ ?_
  clear hK4
  try clear K4
  refine wp_ret ?_
  repeat (first | with_reducible refine then_ret ?_ | with_reducible refine inB_ret ?_)
  exact C_ret F H (rs := [.tmp 4]) rfl (vs := [ni 63]) (.tmp rfl .nil) (ni 63) rfl ⟨rfl, H.kept⟩
end Go.Proofs.Ytlnlppmhiobgjaa
