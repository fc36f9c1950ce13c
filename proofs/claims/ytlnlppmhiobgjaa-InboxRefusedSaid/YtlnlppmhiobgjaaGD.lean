/- Walks: outbox.Add, Len. -/
import Derived.Test.YtlnlppmhiobgjaaGC
set_option linter.unusedVariables false
set_option linter.unusedSimpArgs false
namespace Go.Proofs.Ytlnlppmhiobgjaa
open Go Go.RowKit
theorem i_geqd {k : IntKind} {a b : Nat} : intRes .geq k ((a : Nat) : Int) ((b : Nat) : Int) = some (.bool (decide (b ≤ a))) := by
  unfold intRes
  exact congrArg (fun q => some (Value.bool q)) (decide_eq_decide.2 (by omega))
theorem i_gtrd {k : IntKind} {a b : Nat} : intRes .gtr k ((a : Nat) : Int) ((b : Nat) : Int) = some (.bool (decide (b < a))) := by
  unfold intRes
  exact congrArg (fun q => some (Value.bool q)) (decide_eq_decide.2 (by omega))
theorem i_leqd {k : IntKind} {a b : Nat} : intRes .leq k ((a : Nat) : Int) ((b : Nat) : Int) = some (.bool (decide (a ≤ b))) := by
  unfold intRes
  exact congrArg (fun q => some (Value.bool q)) (decide_eq_decide.2 (by omega))
theorem i_lssd {k : IntKind} {a b : Nat} : intRes .lss k ((a : Nat) : Int) ((b : Nat) : Int) = some (.bool (decide (a < b))) := by
  unfold intRes
  exact congrArg (fun q => some (Value.bool q)) (decide_eq_decide.2 (by omega))
theorem ent_ix {E : List Ent} {k : Nat} {e : Ent} {rest : List Value} (h : E[k]? = some e) : (sl (entC E) rest)[0 + k * 3 + 0]? = some (.int .u32 ((e.ix : Nat) : Int)) := by
  rw [Nat.zero_add]
  exact sl_get ((entC_at h (by decide)).trans rfl)
theorem ent_due {E : List Ent} {k : Nat} {e : Ent} {rest : List Value} (h : E[k]? = some e) : (sl (entC E) rest)[0 + k * 3 + 1]? = some (.int .u64 ((e.due : Nat) : Int)) := by
  rw [Nat.zero_add]
  exact sl_get ((entC_at h (by decide)).trans rfl)
theorem ent_b {E : List Ent} {k : Nat} {e : Ent} {rest : List Value} (h : E[k]? = some e) : (sl (entC E) rest)[0 + k * 3 + 2]? = some e.c.v := by
  rw [Nat.zero_add]
  exact sl_get ((entC_at h (by decide)).trans rfl)
theorem Sv.RdK.kept {X : List Nat} {w w' : World} {s : Sv} (h : s.RdK X w) (k : Kept X w w') : s.RdK X w' := fun _ k2 => h _ (k.trans (fun _ hy => .inr hy) k2)
theorem own_len {cs rest : List Value} {m n cap size : Nat} (h : Own cs rest m cap size) (e : m = n) : Own cs rest n cap size := e ▸ h

theorem Hp.startX1 {w : World} {x : Nat} {p : Obj} (hx : w.heap[x]? = some p) : Hp [x] w [⟨true, x, p⟩] w := by
  refine ⟨Kept.refl _ _, fun b hb => ?_, fun b hb _ => ?_, List.pairwise_singleton _ _⟩
  · rw [List.mem_singleton.1 hb]; exact hx
  · rw [List.mem_singleton.1 hb]; simp
theorem Hp.startX2 {w : World} {x y : Nat} {p q : Obj} (hx : w.heap[x]? = some p) (hy : w.heap[y]? = some q) (hne : x ≠ y) : Hp [x, y] w [⟨true, x, p⟩, ⟨true, y, q⟩] w := by
  refine ⟨Kept.refl _ _, fun b hb => ?_, fun b hb _ => ?_, List.pairwise_cons.2 ⟨fun b hb => ?_, List.pairwise_singleton _ _⟩⟩
  · simp only [List.mem_cons, List.not_mem_nil, or_false] at hb
    rcases hb with rfl | rfl
    · exact hx
    · exact hy
  · simp only [List.mem_cons, List.not_mem_nil, or_false] at hb
    rcases hb with rfl | rfl <;> simp
  · rw [List.mem_singleton.1 hb]; exact hne

set_option maxRecDepth 100000 in
set_option maxHeartbeats 4000000 in
theorem add_first_nil (xb ix now : Nat) (w : World) (hx : w.heap[xb]? = some (.cells #[.slice none 0 0] 47 (0, 0))) : Calls Try.prog 16 #[.pointer (some ⟨xb, 0, none⟩), .int .u32 ((ix : Nat) : Int), .slice none 0 0, .int .u64 ((now : Nat) : Int)] w fun e w' => ∃ (r : SlR) (c : Cl), e = .returned (.int .i64 0) ∧ c.l = [] ∧ c.ok ∧ Own (entC [⟨ix, now, c⟩]) r.rest 1 r.cap 3 ∧ Hp [xb] w (⟨true, xb, .cells #[.slice (some ⟨r.g, 0, none⟩) 1 r.cap] 47 (0, 0)⟩ :: ⟨true, r.g, .cells (sl (entC [⟨ix, now, c⟩]) r.rest) 71 (0, 0)⟩ :: c.blks) w' := by
  refine C_enter Try.func16 rfl 49 Try.ntmps16 (Nat.le_of_ble_eq_true rfl) (fun a F => ?_)
  have H : Hp [xb] w [bk xb #[.slice none 0 0] 47] w := Hp.startX1 hx
  replace F : Fm 49 [] [(0, pt xb 0), (1, nw ix), (2, .slice none 0 0), (3, nu now)] a := F.weak _ (subL_of kr)
  refine C_seqK (fun K1 hK1 => ?_)
  refine C_region ?_
  refine T_k F H (ni 0) ?_
  clear F; intro a F
  refine wpList_nil ?_
  refine hK1 _ _ ?_
  clear hK1
  try clear K1
  refine C_seqK (fun K2 hK2 => ?_)
  refine C_region ?_
  refine T_k F H (pt xb 0) ?_
  clear F; intro a F
  refine T_k F H (pt xb 0) ?_
  clear F; intro a F
  refine T_k F H (pt xb 0) ?_
  clear F; intro a F
  refine T_val F H kr (.slice none 0 0) (R_cell (own := true) (g := xb) (all := #[.slice none 0 0]) (t := 47) (fr := (0, 0)) 0 kr 45 (.tmp 12) rfl 0 kr (.slice none 0 0) kr _ Try.underlying45 rfl) ?_
  clear F; intro a F
  refine T_k F H (ni 0) ?_
  clear F; intro a F
  refine T_k F H (ni 0) ?_
  clear F; intro a F
  refine wpList_nil ?_
  refine hK2 _ _ ?_
  clear hK2
  try clear K2
  refine C_seqK (fun K3 hK3 => ?_)
  refine wp_block ?_
  refine C_seqK (fun K4 hK4 => ?_)
  refine C_region ?_
  refine T_k F H (ni 0) ?_
  clear F; intro a F
  refine T_val F H kr (.bool false) (fun w _ => R_bin (x := (.tmp 16)) (y := (.const (.int .i64 4))) rfl (k := .i64) (a := ((0 : Nat) : Int)) (b := ((4 : Nat) : Int)) kr kr kr w) ?_
  clear F; intro a F
  refine T_k F H (.bool false) ?_
  clear F; intro a F
  refine wpList_nil ?_
  refine hK4 _ _ ?_
  clear hK4
  try clear K4
  refine C_if F false rfl rfl ?_
  refine C_seqK (fun K5 hK5 => ?_)
  refine C_region ?_
  refine T_k F H (ni 0) ?_
  clear F; intro a F
  refine T_k F H (.bool false) ?_
  clear F; intro a F
  refine T_k F H (.bool false) ?_
  clear F; intro a F
  refine T_skip F kr kr ?_
  clear F; intro a F
  refine T_skip F kr kr ?_
  clear F; intro a F
  refine T_skip F kr kr ?_
  clear F; intro a F
  refine T_skip F kr kr ?_
  clear F; intro a F
  refine T_skip F kr kr ?_
  clear F; intro a F
  refine T_skip F kr kr ?_
  clear F; intro a F
  refine T_skip F kr kr ?_
  clear F; intro a F
  refine T_skip F kr kr ?_
  clear F; intro a F
  refine T_skip F kr kr ?_
  clear F; intro a F
  refine T_skip F kr kr ?_
  clear F; intro a F
  refine T_skip F kr kr ?_
  clear F; intro a F
  refine T_skip F kr kr ?_
  clear F; intro a F
  refine T_k F H (.bool false) ?_
  clear F; intro a F
  refine T_k F H (.bool false) ?_
  clear F; intro a F
  refine wpList_nil ?_
  refine hK5 _ _ ?_
  clear hK5
  try clear K5
  refine C_if F false rfl rfl ?_
  refine wp_skip ?_
  refine hK3 _ _ ?_
  clear hK3
  try clear K3
  refine C_seqK (fun K6 hK6 => ?_)
  refine E_region F H (fun β => [(35, pt xb 0), (36, pt xb 0), (37, pt xb 0), (38, pt xb 0), (39, .slice none 0 0), (40, nw ix), (41, nu now), (42, .slice none 0 0), (43, .slice none 0 0), (44, .agg #[nw ix, nu now, .slice none 0 0]), (45, sc ((β 10).g) 0 1 1), (46, sc ((β 11).g) 0 1 (β 11).cap), (47, pt xb 0), (48, pt xb 0)]) [35, 36, 37, 38, 39, 40, 41, 42, 43, 44, 45, 46, 47, 48] [⟨some 10, none, 0, [], fun q_ => ce (sl ([nw ix, nu now, .slice none 0 0]) []) 71, gT, []⟩,
    ⟨some 11, none, 0, [11], fun q_ => ce (sl ([nw ix, nu now, .slice none 0 0]) (gh q_ 0).rest) 71, fun q_ => Own ([nw ix, nu now, .slice none 0 0]) (gh q_ 0).rest (1) (gh q_ 0).cap 3, []⟩,
    ⟨none, none, xb, [], fun q_ => ce #[.slice none 0 0] 47, gT, [⟨14, [11], fun q_ => ce #[sc ((gh q_ 0).g) 0 1 (gh q_ 0).cap] 47, gT⟩]⟩] [] [0] 2 [] kr kr kr (fun β => rfl) ⟨fun h _ => Bool.noConfusion h, ⟨fun h _ => Bool.noConfusion h, ⟨fun _ _ => trivial, trivial⟩⟩⟩ ⟨?_, ?_, ?_, ?_, ?_, ?_, ?_, ?_, ?_, ?_, ?_, ?_, ?_, ?_, ?_, trivial⟩ ?_
  · exact E_k 49 (fun β => pt xb 0) 35 2
  · exact E_k 49 (fun β => pt xb 0) 36 2
  · exact E_k 49 (fun β => pt xb 0) 37 2
  · exact E_k 49 (fun β => pt xb 0) 38 2
  · exact E_v 49 (fun β => .slice none 0 0) 39 2 [(2, 0)] (fun β w hk hl hq => R_cellH hl (own := true) (g := xb) (all := #[.slice none 0 0]) (t := 47) (fr := (0, 0)) 0 kr 45 (.tmp 38) rfl 0 kr (.slice none 0 0) kr _ Try.underlying45 rfl)
  · exact E_k 49 (fun β => nw ix) 40 2
  · exact E_k 49 (fun β => nu now) 41 2
  · exact E_k 49 (fun β => .slice none 0 0) 42 2
  · exact E_call 49 kq (fun β => .slice none 0 0) 43 rfl kq 29 (fun β => #[.slice none 0 0]) (fun β w => kr) 2 [] kr rfl (fun β w hk hl hq => clone_nil _)
  · exact E_k 49 (fun β => .agg #[nw ix, nu now, .slice none 0 0]) 44 2
  · exact E_new 49 kq (fun β => sc ((β 10).g) 0 1 1) 45 rfl kq 2 (fun β r => offAt2_of kr kr) 2 [] 0 _ rfl kr kr rfl (fun β w hk hl hq => ⟨⟨w.heap.size, 0, [], 0⟩, _, (R_buildS (len := 1) rfl Try.underlying45 ((sl ([nw ix, nu now, .slice none 0 0]) [])) kr w), trivial, Nat.le_refl _, heap_alloc_new _ _, Kept.alloc _ _⟩)
  · exact E_new 49 kq (fun β => sc ((β 11).g) 0 1 (β 11).cap) 46 rfl kq 2 (fun β r => offAt2_of kr kr) 2 [(0, 0)] 1 _ rfl kr kr rfl (fun β w hk hl hq => let ⟨r, w', h1, h2, h3, h4, h5⟩ := run_appN (size := 3) (bytes := 40) (t := 45) (e := 71) kr kr (x := sc ((β 10).g) 0 1 1) (m := 1) (news := [nw ix, nu now, .slice none 0 0]) (RdS.all (hl.at_ (k := 0) rfl) (Nat.le_refl _)) rfl (by decide) (by simp only [maxLen]; decide) (by decide); ⟨r, w', exec_append (s := (.tmp 39)) (x := (.tmp 45)) rfl kr rfl h1, h2, h4, h3, h5⟩)
  · exact E_k 49 (fun β => pt xb 0) 47 2
  · exact E_k 49 (fun β => pt xb 0) 48 2
  · exact E_store 49 kq rfl 2 [] 2 0 _ _ rfl rfl kr rfl (fun _ => trivial) (fun β w hk hl hq hm => let ⟨w', h1, h2, h3⟩ := P_cell (off := 0) (old := #[.slice none 0 0]) (v := sc ((β 11).g) 0 1 (β 11).cap) (Z := ce #[.slice none 0 0] 47) (R := ce #[sc ((β 11).g) 0 1 (β 11).cap] 47) rfl rfl (ty := 45) (x := (.tmp 48)) (y := (.tmp 46)) rfl kr kr rfl (Nat.le_of_ble_eq_true rfl) Try.underlying45 rfl kr hm; ⟨w', h1, h2, h3⟩)
  clear F H; intro β a v Q F H
  replace H : Hp [xb] w [bk ((β 10).g) (sl ([nw ix, nu now, .slice none 0 0]) []) 71, bk ((β 11).g) (sl ([nw ix, nu now, .slice none 0 0]) (β 11).rest) 71, bk xb #[sc ((β 11).g) 0 1 (β 11).cap] 47] v := H
  replace F : Fm 49 [] [(48, pt xb 0), (47, pt xb 0), (46, sc ((β 11).g) 0 1 (β 11).cap), (45, sc ((β 10).g) 0 1 1), (44, .agg #[nw ix, nu now, .slice none 0 0]), (43, .slice none 0 0), (42, .slice none 0 0), (41, nu now), (40, nw ix), (39, .slice none 0 0), (38, pt xb 0), (37, pt xb 0), (36, pt xb 0), (35, pt xb 0), (18, .bool false), (34, .bool false), (33, undef), (32, undef), (31, undef), (30, undef), (29, undef), (28, undef), (27, undef), (26, undef), (25, undef), (24, undef), (23, undef), (22, undef), (21, .bool false), (20, .bool false), (19, ni 0), (15, .bool false), (17, .bool false), (16, ni 0), (9, ni 0), (14, ni 0), (13, .slice none 0 0), (12, pt xb 0), (11, pt xb 0), (10, pt xb 0), (8, ni 0), (0, pt xb 0), (1, nw ix), (2, .slice none 0 0), (3, nu now)] a := F.weak _ (subL_of kr)
  have Qh8_1 : Own ([nw ix, nu now, .slice none 0 0]) (β 11).rest (1) (β 11).cap 3 := Q.2.2.1
  clear Q
  generalize β 10 = rq7 at F H Qh8_1
  generalize β 11 = rq8 at F H Qh8_1
  skip
  refine ?_
  refine hK6 _ _ ?_
  clear hK6
  try clear K6
  refine C_seqK (fun K9 hK9 => ?_)
  refine C_region ?_
  refine T_k F H (ni 0) ?_
  clear F; intro a F
  refine wpList_nil ?_
  refine hK9 _ _ ?_
  clear hK9
  try clear K9
  refine wp_ret ?_
  exact C_ret F H (rs := [.tmp 8]) rfl (vs := [ni 0]) (.tmp rfl .nil) (ni 0) rfl ⟨rq8, ⟨true, 0, 0, [], []⟩, rfl, rfl, ⟨Nat.zero_le _, fun _ => rfl, fun e => by cases e⟩, Qh8_1, H.pick [2, 1] kr _ rfl⟩

set_option maxRecDepth 100000 in
set_option maxHeartbeats 4000000 in
theorem add_first_some (xb ix now : Nat) (bq : Addr) (bc : Nat) (l : List Nat) (hbig : l.length ≤ 140737488355328) (w : World) (hx : w.heap[xb]? = some (.cells #[.slice none 0 0] 47 (0, 0))) (hb : Sv.RdK [xb] w ⟨some bq, bc, l⟩) : Calls Try.prog 16 #[.pointer (some ⟨xb, 0, none⟩), .int .u32 ((ix : Nat) : Int), .slice (some bq) l.length bc, .int .u64 ((now : Nat) : Int)] w fun e w' => ∃ (r : SlR) (c : Cl), e = .returned (.int .i64 0) ∧ c.l = l ∧ c.ok ∧ Own (entC [⟨ix, now, c⟩]) r.rest 1 r.cap 3 ∧ Hp [xb] w (⟨true, xb, .cells #[.slice (some ⟨r.g, 0, none⟩) 1 r.cap] 47 (0, 0)⟩ :: ⟨true, r.g, .cells (sl (entC [⟨ix, now, c⟩]) r.rest) 71 (0, 0)⟩ :: c.blks) w' := by
  refine C_enter Try.func16 rfl 49 Try.ntmps16 (Nat.le_of_ble_eq_true rfl) (fun a F => ?_)
  have H : Hp [xb] w [bk xb #[.slice none 0 0] 47] w := Hp.startX1 hx
  replace F : Fm 49 [] [(0, pt xb 0), (1, nw ix), (2, .slice (some bq) l.length bc), (3, nu now)] a := F.weak _ (subL_of kr)
  refine C_seqK (fun K1 hK1 => ?_)
  refine C_region ?_
  refine T_k F H (ni 0) ?_
  clear F; intro a F
  refine wpList_nil ?_
  refine hK1 _ _ ?_
  clear hK1
  try clear K1
  refine C_seqK (fun K2 hK2 => ?_)
  refine C_region ?_
  refine T_k F H (pt xb 0) ?_
  clear F; intro a F
  refine T_k F H (pt xb 0) ?_
  clear F; intro a F
  refine T_k F H (pt xb 0) ?_
  clear F; intro a F
  refine T_val F H kr (.slice none 0 0) (R_cell (own := true) (g := xb) (all := #[.slice none 0 0]) (t := 47) (fr := (0, 0)) 0 kr 45 (.tmp 12) rfl 0 kr (.slice none 0 0) kr _ Try.underlying45 rfl) ?_
  clear F; intro a F
  refine T_k F H (ni 0) ?_
  clear F; intro a F
  refine T_k F H (ni 0) ?_
  clear F; intro a F
  refine wpList_nil ?_
  refine hK2 _ _ ?_
  clear hK2
  try clear K2
  refine C_seqK (fun K3 hK3 => ?_)
  refine wp_block ?_
  refine C_seqK (fun K4 hK4 => ?_)
  refine C_region ?_
  refine T_k F H (ni 0) ?_
  clear F; intro a F
  refine T_val F H kr (.bool false) (fun w _ => R_bin (x := (.tmp 16)) (y := (.const (.int .i64 4))) rfl (k := .i64) (a := ((0 : Nat) : Int)) (b := ((4 : Nat) : Int)) kr kr kr w) ?_
  clear F; intro a F
  refine T_k F H (.bool false) ?_
  clear F; intro a F
  refine wpList_nil ?_
  refine hK4 _ _ ?_
  clear hK4
  try clear K4
  refine C_if F false rfl rfl ?_
  refine C_seqK (fun K5 hK5 => ?_)
  refine C_region ?_
  refine T_k F H (ni 0) ?_
  clear F; intro a F
  refine T_k F H (.bool false) ?_
  clear F; intro a F
  refine T_k F H (.bool false) ?_
  clear F; intro a F
  refine T_skip F kr kr ?_
  clear F; intro a F
  refine T_skip F kr kr ?_
  clear F; intro a F
  refine T_skip F kr kr ?_
  clear F; intro a F
  refine T_skip F kr kr ?_
  clear F; intro a F
  refine T_skip F kr kr ?_
  clear F; intro a F
  refine T_skip F kr kr ?_
  clear F; intro a F
  refine T_skip F kr kr ?_
  clear F; intro a F
  refine T_skip F kr kr ?_
  clear F; intro a F
  refine T_skip F kr kr ?_
  clear F; intro a F
  refine T_skip F kr kr ?_
  clear F; intro a F
  refine T_skip F kr kr ?_
  clear F; intro a F
  refine T_skip F kr kr ?_
  clear F; intro a F
  refine T_k F H (.bool false) ?_
  clear F; intro a F
  refine T_k F H (.bool false) ?_
  clear F; intro a F
  refine wpList_nil ?_
  refine hK5 _ _ ?_
  clear hK5
  try clear K5
  refine C_if F false rfl rfl ?_
  refine wp_skip ?_
  refine hK3 _ _ ?_
  clear hK3
  try clear K3
  refine C_seqK (fun K6 hK6 => ?_)
  refine E_region F H (fun β => [(35, pt xb 0), (36, pt xb 0), (37, pt xb 0), (38, pt xb 0), (39, .slice none 0 0), (40, nw ix), (41, nu now), (42, .slice (some bq) l.length bc), (43, sc ((β 8).g) 0 l.length (β 8).cap), (44, .agg #[nw ix, nu now, sc ((β 8).g) 0 l.length (β 8).cap]), (45, sc ((β 10).g) 0 1 1), (46, sc ((β 11).g) 0 1 (β 11).cap), (47, pt xb 0), (48, pt xb 0)]) [35, 36, 37, 38, 39, 40, 41, 42, 43, 44, 45, 46, 47, 48] [⟨some 8, none, 0, [8], fun q_ => ce (sl (oct (l)) (gh q_ 0).rest) 5, fun q_ => Own (oct (l)) (gh q_ 0).rest (l.length) (gh q_ 0).cap 1, []⟩,
    ⟨some 10, none, 0, [8], fun q_ => ce (sl ([nw ix, nu now, sc ((gh q_ 0).g) 0 l.length (gh q_ 0).cap]) []) 71, gT, []⟩,
    ⟨some 11, none, 0, [8, 11], fun q_ => ce (sl ([nw ix, nu now, sc ((gh q_ 0).g) 0 l.length (gh q_ 0).cap]) (gh q_ 1).rest) 71, fun q_ => Own ([nw ix, nu now, sc ((gh q_ 0).g) 0 l.length (gh q_ 0).cap]) (gh q_ 1).rest (1) (gh q_ 1).cap 3, []⟩,
    ⟨none, none, xb, [], fun q_ => ce #[.slice none 0 0] 47, gT, [⟨14, [11], fun q_ => ce #[sc ((gh q_ 0).g) 0 1 (gh q_ 0).cap] 47, gT⟩]⟩] [] [0] 2 [] kr kr kr (fun β => rfl) ⟨fun h _ => Bool.noConfusion h, ⟨fun h _ => Bool.noConfusion h, ⟨fun h _ => Bool.noConfusion h, ⟨fun _ _ => trivial, trivial⟩⟩⟩⟩ ⟨?_, ?_, ?_, ?_, ?_, ?_, ?_, ?_, ?_, ?_, ?_, ?_, ?_, ?_, ?_, trivial⟩ ?_
  · exact E_k 49 (fun β => pt xb 0) 35 2
  · exact E_k 49 (fun β => pt xb 0) 36 2
  · exact E_k 49 (fun β => pt xb 0) 37 2
  · exact E_k 49 (fun β => pt xb 0) 38 2
  · exact E_v 49 (fun β => .slice none 0 0) 39 2 [(3, 0)] (fun β w hk hl hq => R_cellH hl (own := true) (g := xb) (all := #[.slice none 0 0]) (t := 47) (fr := (0, 0)) 0 kr 45 (.tmp 38) rfl 0 kr (.slice none 0 0) kr _ Try.underlying45 rfl)
  · exact E_k 49 (fun β => nw ix) 40 2
  · exact E_k 49 (fun β => nu now) 41 2
  · exact E_k 49 (fun β => .slice (some bq) l.length bc) 42 2
  · exact E_callS 49 kq (fun β => sc ((β 8).g) 0 l.length (β 8).cap) 43 rfl kq 2 (fun β r => offAt2_of kr kr) 29 (fun β => #[.slice (some bq) l.length bc]) (fun β w => kr) 2 [] 0 _ rfl kr kr rfl (fun β w hk hl hq => clone_some bq l.length bc l rfl hbig _ ((hb _ hk).rds rfl))
  · exact E_k 49 (fun β => .agg #[nw ix, nu now, sc ((β 8).g) 0 l.length (β 8).cap]) 44 2
  · exact E_new 49 kq (fun β => sc ((β 10).g) 0 1 1) 45 rfl kq 2 (fun β r => offAt2_of kr kr) 2 [] 1 _ rfl kr kr rfl (fun β w hk hl hq => ⟨⟨w.heap.size, 0, [], 0⟩, _, (R_buildS (len := 1) rfl Try.underlying45 ((sl ([nw ix, nu now, sc ((β 8).g) 0 l.length (β 8).cap]) [])) kr w), trivial, Nat.le_refl _, heap_alloc_new _ _, Kept.alloc _ _⟩)
  · exact E_new 49 kq (fun β => sc ((β 11).g) 0 1 (β 11).cap) 46 rfl kq 2 (fun β r => offAt2_of kr kr) 2 [(1, 0)] 2 _ rfl kr kr rfl (fun β w hk hl hq => let ⟨r, w', h1, h2, h3, h4, h5⟩ := run_appN (size := 3) (bytes := 40) (t := 45) (e := 71) kr kr (x := sc ((β 10).g) 0 1 1) (m := 1) (news := [nw ix, nu now, sc ((β 8).g) 0 l.length (β 8).cap]) (RdS.all (hl.at_ (k := 0) rfl) (Nat.le_refl _)) rfl (by decide) (by simp only [maxLen]; decide) (by decide); ⟨r, w', exec_append (s := (.tmp 39)) (x := (.tmp 45)) rfl kr rfl h1, h2, h4, h3, h5⟩)
  · exact E_k 49 (fun β => pt xb 0) 47 2
  · exact E_k 49 (fun β => pt xb 0) 48 2
  · exact E_store 49 kq rfl 2 [] 3 0 _ _ rfl rfl kr rfl (fun _ => trivial) (fun β w hk hl hq hm => let ⟨w', h1, h2, h3⟩ := P_cell (off := 0) (old := #[.slice none 0 0]) (v := sc ((β 11).g) 0 1 (β 11).cap) (Z := ce #[.slice none 0 0] 47) (R := ce #[sc ((β 11).g) 0 1 (β 11).cap] 47) rfl rfl (ty := 45) (x := (.tmp 48)) (y := (.tmp 46)) rfl kr kr rfl (Nat.le_of_ble_eq_true rfl) Try.underlying45 rfl kr hm; ⟨w', h1, h2, h3⟩)
  clear F H; intro β a v Q F H
  replace H : Hp [xb] w [bk ((β 8).g) (sl (oct (l)) (β 8).rest) 5, bk ((β 10).g) (sl ([nw ix, nu now, sc ((β 8).g) 0 l.length (β 8).cap]) []) 71, bk ((β 11).g) (sl ([nw ix, nu now, sc ((β 8).g) 0 l.length (β 8).cap]) (β 11).rest) 71, bk xb #[sc ((β 11).g) 0 1 (β 11).cap] 47] v := H
  replace F : Fm 49 [] [(48, pt xb 0), (47, pt xb 0), (46, sc ((β 11).g) 0 1 (β 11).cap), (45, sc ((β 10).g) 0 1 1), (44, .agg #[nw ix, nu now, sc ((β 8).g) 0 l.length (β 8).cap]), (43, sc ((β 8).g) 0 l.length (β 8).cap), (42, .slice (some bq) l.length bc), (41, nu now), (40, nw ix), (39, .slice none 0 0), (38, pt xb 0), (37, pt xb 0), (36, pt xb 0), (35, pt xb 0), (18, .bool false), (34, .bool false), (33, undef), (32, undef), (31, undef), (30, undef), (29, undef), (28, undef), (27, undef), (26, undef), (25, undef), (24, undef), (23, undef), (22, undef), (21, .bool false), (20, .bool false), (19, ni 0), (15, .bool false), (17, .bool false), (16, ni 0), (9, ni 0), (14, ni 0), (13, .slice none 0 0), (12, pt xb 0), (11, pt xb 0), (10, pt xb 0), (8, ni 0), (0, pt xb 0), (1, nw ix), (2, .slice (some bq) l.length bc), (3, nu now)] a := F.weak _ (subL_of kr)
  have Qh9_0 : Own (oct (l)) (β 8).rest (l.length) (β 8).cap 1 := Q.1
  have Qh9_2 : Own ([nw ix, nu now, sc ((β 8).g) 0 l.length (β 8).cap]) (β 11).rest (1) (β 11).cap 3 := Q.2.2.2.2.1
  clear Q
  generalize β 8 = rq7 at F H Qh9_0 Qh9_2
  generalize β 10 = rq8 at F H Qh9_0 Qh9_2
  generalize β 11 = rq9 at F H Qh9_0 Qh9_2
  skip
  refine ?_
  refine hK6 _ _ ?_
  clear hK6
  try clear K6
  refine C_seqK (fun K10 hK10 => ?_)
  refine C_region ?_
  refine T_k F H (ni 0) ?_
  clear F; intro a F
  refine wpList_nil ?_
  refine hK10 _ _ ?_
  clear hK10
  try clear K10
  refine wp_ret ?_
  exact C_ret F H (rs := [.tmp 8]) rfl (vs := [ni 0]) (.tmp rfl .nil) (ni 0) rfl ⟨rq9, ⟨false, rq7.g, rq7.cap, rq7.rest, l⟩, rfl, rfl, ⟨hbig, (fun e => by cases e), fun _ => Qh9_0⟩, Qh9_2, H.pick [3, 2, 0] kr _ rfl⟩

set_option maxRecDepth 100000 in
set_option maxHeartbeats 4000000 in
theorem add_more_nil (xb ix now : Nat) (E : List Ent) (ag cap : Nat) (rest : List Value) (lx : Ent) (hlt : E.length < 4) (h1 : 1 ≤ E.length) (hlx : E[E.length - 1]? = some lx) (hix : ix = add32 (lx.ix) (1)) (w : World) (hx : w.heap[xb]? = some (.cells #[.slice (some ⟨ag, 0, none⟩) E.length cap] 47 (0, 0))) (hag : w.heap[ag]? = some (.cells (sl (entC E) rest) 71 (0, 0))) (hO : Own (entC E) rest E.length cap 3) (hne : xb ≠ ag) : Calls Try.prog 16 #[.pointer (some ⟨xb, 0, none⟩), .int .u32 ((ix : Nat) : Int), .slice none 0 0, .int .u64 ((now : Nat) : Int)] w fun e w' => ∃ (r : SlR) (c : Cl), e = .returned (.int .i64 0) ∧ c.l = [] ∧ c.ok ∧ Own (entC (E ++ [⟨ix, now, c⟩])) r.rest (E.length + 1) r.cap 3 ∧ Hp [xb, ag] w (⟨true, xb, .cells #[.slice (some ⟨r.g, 0, none⟩) (E.length + 1) r.cap] 47 (0, 0)⟩ :: ⟨true, r.g, .cells (sl (entC (E ++ [⟨ix, now, c⟩])) r.rest) 71 (0, 0)⟩ :: c.blks) w' := by
  
  refine C_enter Try.func16 rfl 49 Try.ntmps16 (Nat.le_of_ble_eq_true rfl) (fun a F => ?_)
  have H : Hp [xb, ag] w [bk xb #[sc ag 0 E.length cap] 47, bk ag (sl (entC E) rest) 71] w := Hp.startX2 hx hag hne
  replace F : Fm 49 [] [(0, pt xb 0), (1, nw ix), (2, .slice none 0 0), (3, nu now)] a := F.weak _ (subL_of kr)
  have hE : E.length < 4 := hlt
  refine C_seqK (fun K1 hK1 => ?_)
  refine C_region ?_
  refine T_k F H (ni 0) ?_
  clear F; intro a F
  refine wpList_nil ?_
  refine hK1 _ _ ?_
  clear hK1
  try clear K1
  refine C_seqK (fun K2 hK2 => ?_)
  refine C_region ?_
  refine T_k F H (pt xb 0) ?_
  clear F; intro a F
  refine T_k F H (pt xb 0) ?_
  clear F; intro a F
  refine T_k F H (pt xb 0) ?_
  clear F; intro a F
  refine T_val F H kr (sc ag 0 E.length cap) (R_cell (own := true) (g := xb) (all := #[sc ag 0 E.length cap]) (t := 47) (fr := (0, 0)) 0 kr 45 (.tmp 12) rfl 0 kr (sc ag 0 E.length cap) kr _ Try.underlying45 rfl) ?_
  clear F; intro a F
  refine T_k F H (ni E.length) ?_
  clear F; intro a F
  refine T_k F H (ni E.length) ?_
  clear F; intro a F
  refine wpList_nil ?_
  refine hK2 _ _ ?_
  clear hK2
  try clear K2
  refine C_seqK (fun K3 hK3 => ?_)
  refine wp_block ?_
  refine C_seqK (fun K4 hK4 => ?_)
  refine C_region ?_
  refine T_k F H (ni E.length) ?_
  clear F; intro a F
  refine T_val F H kr (.bool false) (fun w _ => R_bin (x := (.tmp 16)) (y := (.const (.int .i64 4))) rfl (k := .i64) (a := ((E.length : Nat) : Int)) (b := ((4 : Nat) : Int)) kr kr (i_geqd.trans (by rw [decide_eq_false (by omega)])) w) ?_
  clear F; intro a F
  refine T_k F H (.bool false) ?_
  clear F; intro a F
  refine wpList_nil ?_
  refine hK4 _ _ ?_
  clear hK4
  try clear K4
  refine C_if F false rfl rfl ?_
  refine C_seqK (fun K5 hK5 => ?_)
  refine C_region ?_
  refine T_k F H (ni E.length) ?_
  clear F; intro a F
  refine T_val F H kr (.bool true) (fun w _ => R_bin (x := (.tmp 19)) (y := (.const (.int .i64 0))) rfl (k := .i64) (a := ((E.length : Nat) : Int)) (b := ((0 : Nat) : Int)) kr kr (i_gtn (by omega)) w) ?_
  clear F; intro a F
  refine T_k F H (.bool true) ?_
  clear F; intro a F
  refine T_k F H (nw ix) ?_
  clear F; intro a F
  refine T_k F H (pt xb 0) ?_
  clear F; intro a F
  refine T_k F H (pt xb 0) ?_
  clear F; intro a F
  refine T_k F H (pt xb 0) ?_
  clear F; intro a F
  refine T_val F H kr (sc ag 0 E.length cap) (R_cell (own := true) (g := xb) (all := #[sc ag 0 E.length cap]) (t := 47) (fr := (0, 0)) 0 kr 45 (.tmp 25) rfl 0 kr (sc ag 0 E.length cap) kr _ Try.underlying45 rfl) ?_
  clear F; intro a F
  refine T_k F H (ni E.length) ?_
  clear F; intro a F
  refine T_val F H kr (ni (E.length - 1)) (fun w _ => R_bin (x := (.tmp 27)) (y := (.const (.int .i64 1))) rfl (k := .i64) (a := ((E.length : Nat) : Int)) (b := ((1 : Nat) : Int)) kr kr (i_subn64 (a := E.length) (b := 1) (by omega) (by omega)) w) ?_
  clear F; intro a F
  refine T_val F H kr (pt ag (0 + ((E.length - 1)) * 3)) (fun w _ => R_indexS (k := .i64) (g := ag) (off := 0) (len := E.length) (cap := cap) (x := (.tmp 26)) (y := (.tmp 28)) rfl Try.underlying45 kr ((E.length - 1)) kr (by omega) (sz := 3) kr w) ?_
  clear F; intro a F
  refine T_k F H (pt ag ((0 + ((E.length - 1)) * 3) + 0)) ?_
  clear F; intro a F
  refine T_val F H kr (nw lx.ix) (R_cell (own := true) (g := ag) (all := (sl (entC E) rest)) (t := 71) (fr := (0, 0)) 1 kr 29 (.tmp 30) rfl ((0 + ((E.length - 1)) * 3) + 0) kr (nw lx.ix) (ent_ix hlx) _ Try.underlying29 rfl) ?_
  clear F; intro a F
  refine T_val F H kr (nw (add32 (lx.ix) (1))) (fun w _ => R_bin (x := (.tmp 31)) (y := (.const (.int .u32 1))) rfl (k := .u32) (a := ((lx.ix : Nat) : Int)) (b := ((1 : Nat) : Int)) kr kr (i_add32 (a := lx.ix) (b := 1)) w) ?_
  clear F; intro a F
  refine T_val F H kr (.bool false) (fun w _ => R_bin (x := (.tmp 22)) (y := (.tmp 32)) rfl (k := .u32) (a := ((ix : Nat) : Int)) (b := ((add32 (lx.ix) (1) : Nat) : Int)) kr kr (i_ned.trans (by rw [decide_eq_false (fun e => e hix)])) w) ?_
  clear F; intro a F
  refine T_k F H (.bool false) ?_
  clear F; intro a F
  refine T_k F H (.bool false) ?_
  clear F; intro a F
  refine wpList_nil ?_
  refine hK5 _ _ ?_
  clear hK5
  try clear K5
  refine C_if F false rfl rfl ?_
  refine wp_skip ?_
  refine hK3 _ _ ?_
  clear hK3
  try clear K3
  refine C_seqK (fun K6 hK6 => ?_)
  refine E_region F H (fun β => [(35, pt xb 0), (36, pt xb 0), (37, pt xb 0), (38, pt xb 0), (39, sc ag 0 E.length cap), (40, nw ix), (41, nu now), (42, .slice none 0 0), (43, .slice none 0 0), (44, .agg #[nw ix, nu now, .slice none 0 0]), (45, sc ((β 10).g) 0 1 1), (46, sc ((β 11).g) 0 (E.length + 1) (β 11).cap), (47, pt xb 0), (48, pt xb 0)]) [35, 36, 37, 38, 39, 40, 41, 42, 43, 44, 45, 46, 47, 48] [⟨some 10, none, 0, [], fun q_ => ce (sl ([nw ix, nu now, .slice none 0 0]) []) 71, gT, []⟩,
    ⟨some 11, none, 0, [11], fun q_ => ce (sl ((entC E) ++ ([nw ix, nu now, .slice none 0 0])) (gh q_ 0).rest) 71, fun q_ => Own ((entC E) ++ ([nw ix, nu now, .slice none 0 0])) (gh q_ 0).rest ((E.length + 1)) (gh q_ 0).cap 3, []⟩,
    ⟨none, some 11, ag, [], fun q_ => ce (sl (entC E) rest) 71, gT, []⟩,
    ⟨none, none, xb, [], fun q_ => ce #[sc ag 0 E.length cap] 47, gT, [⟨14, [11], fun q_ => ce #[sc ((gh q_ 0).g) 0 (E.length + 1) (gh q_ 0).cap] 47, gT⟩]⟩] [] [1, 0] 2 [] kr kr kr (fun β => rfl) ⟨fun h _ => Bool.noConfusion h, ⟨fun h _ => Bool.noConfusion h, ⟨fun _ _ => trivial, ⟨fun _ _ => trivial, trivial⟩⟩⟩⟩ ⟨?_, ?_, ?_, ?_, ?_, ?_, ?_, ?_, ?_, ?_, ?_, ?_, ?_, ?_, ?_, trivial⟩ ?_
  · exact E_k 49 (fun β => pt xb 0) 35 2
  · exact E_k 49 (fun β => pt xb 0) 36 2
  · exact E_k 49 (fun β => pt xb 0) 37 2
  · exact E_k 49 (fun β => pt xb 0) 38 2
  · exact E_v 49 (fun β => sc ag 0 E.length cap) 39 2 [(3, 0)] (fun β w hk hl hq => R_cellH hl (own := true) (g := xb) (all := #[sc ag 0 E.length cap]) (t := 47) (fr := (0, 0)) 0 kr 45 (.tmp 38) rfl 0 kr (sc ag 0 E.length cap) kr _ Try.underlying45 rfl)
  · exact E_k 49 (fun β => nw ix) 40 2
  · exact E_k 49 (fun β => nu now) 41 2
  · exact E_k 49 (fun β => .slice none 0 0) 42 2
  · exact E_call 49 kq (fun β => .slice none 0 0) 43 rfl kq 29 (fun β => #[.slice none 0 0]) (fun β w => kr) 2 [] kr rfl (fun β w hk hl hq => clone_nil _)
  · exact E_k 49 (fun β => .agg #[nw ix, nu now, .slice none 0 0]) 44 2
  · exact E_new 49 kq (fun β => sc ((β 10).g) 0 1 1) 45 rfl kq 2 (fun β r => offAt2_of kr kr) 2 [] 0 _ rfl kr kr rfl (fun β w hk hl hq => ⟨⟨w.heap.size, 0, [], 0⟩, _, (R_buildS (len := 1) rfl Try.underlying45 ((sl ([nw ix, nu now, .slice none 0 0]) [])) kr w), trivial, Nat.le_refl _, heap_alloc_new _ _, Kept.alloc _ _⟩)
  · exact E_app 49 kq (fun β => sc ((β 11).g) 0 (E.length + 1) (β 11).cap) 46 rfl kq 2 (fun β r => offAt2_of kr kr) 2 [(0, 0)] 1 1 _ _ rfl rfl kr kr rfl rfl (fun β w hk hl hq hm => let ⟨r, w', h1, h2, h3, h4⟩ := run_app (size := 3) (bytes := 40) (t := 45) (e := 71) kr kr hO hm (x := sc ((β 10).g) 0 1 1) (m := 1) (news := [nw ix, nu now, .slice none 0 0]) (RdS.all (hl.at_ (k := 0) rfl) (Nat.le_refl _)) rfl (by intro u hu; simp only [List.mem_cons, List.not_mem_nil, or_false] at hu; first | (subst hu; rfl) | (rcases hu with rfl | rfl | rfl <;> rfl)) (by simp only [maxLen]; omega) (by omega); ⟨r, w', exec_append (s := (.tmp 39)) (x := (.tmp 45)) rfl kr rfl h1, h2, h3, h4⟩)
  · exact E_k 49 (fun β => pt xb 0) 47 2
  · exact E_k 49 (fun β => pt xb 0) 48 2
  · exact E_store 49 kq rfl 2 [] 3 0 _ _ rfl rfl kr rfl (fun _ => trivial) (fun β w hk hl hq hm => let ⟨w', h1, h2, h3⟩ := P_cell (off := 0) (old := #[sc ag 0 E.length cap]) (v := sc ((β 11).g) 0 (E.length + 1) (β 11).cap) (Z := ce #[sc ag 0 E.length cap] 47) (R := ce #[sc ((β 11).g) 0 (E.length + 1) (β 11).cap] 47) rfl rfl (ty := 45) (x := (.tmp 48)) (y := (.tmp 46)) rfl kr kr rfl (Nat.le_of_ble_eq_true rfl) Try.underlying45 rfl kr hm; ⟨w', h1, h2, h3⟩)
  clear F H; intro β a v Q F H
  replace H : Hp [xb, ag] w [bk ((β 10).g) (sl ([nw ix, nu now, .slice none 0 0]) []) 71, bk ((β 11).g) (sl ((entC E) ++ ([nw ix, nu now, .slice none 0 0])) (β 11).rest) 71, bk xb #[sc ((β 11).g) 0 (E.length + 1) (β 11).cap] 47] v := H
  replace F : Fm 49 [] [(48, pt xb 0), (47, pt xb 0), (46, sc ((β 11).g) 0 (E.length + 1) (β 11).cap), (45, sc ((β 10).g) 0 1 1), (44, .agg #[nw ix, nu now, .slice none 0 0]), (43, .slice none 0 0), (42, .slice none 0 0), (41, nu now), (40, nw ix), (39, sc ag 0 E.length cap), (38, pt xb 0), (37, pt xb 0), (36, pt xb 0), (35, pt xb 0), (18, .bool false), (34, .bool false), (33, .bool false), (32, nw (add32 (lx.ix) (1))), (31, nw lx.ix), (30, pt ag ((0 + ((E.length - 1)) * 3) + 0)), (29, pt ag (0 + ((E.length - 1)) * 3)), (28, ni (E.length - 1)), (27, ni E.length), (26, sc ag 0 E.length cap), (25, pt xb 0), (24, pt xb 0), (23, pt xb 0), (22, nw ix), (21, .bool true), (20, .bool true), (19, ni E.length), (15, .bool false), (17, .bool false), (16, ni E.length), (9, ni E.length), (14, ni E.length), (13, sc ag 0 E.length cap), (12, pt xb 0), (11, pt xb 0), (10, pt xb 0), (8, ni 0), (0, pt xb 0), (1, nw ix), (2, .slice none 0 0), (3, nu now)] a := F.weak _ (subL_of kr)
  have Qh8_1 : Own ((entC E) ++ ([nw ix, nu now, .slice none 0 0])) (β 11).rest ((E.length + 1)) (β 11).cap 3 := Q.2.2.1
  clear Q
  generalize β 10 = rq7 at F H Qh8_1
  generalize β 11 = rq8 at F H Qh8_1
  skip
  refine ?_
  refine hK6 _ _ ?_
  clear hK6
  try clear K6
  refine C_seqK (fun K9 hK9 => ?_)
  refine C_region ?_
  refine T_k F H (ni 0) ?_
  clear F; intro a F
  refine wpList_nil ?_
  refine hK9 _ _ ?_
  clear hK9
  try clear K9
  refine wp_ret ?_
  exact C_ret F H (rs := [.tmp 8]) rfl (vs := [ni 0]) (.tmp rfl .nil) (ni 0) rfl ⟨rq8, ⟨true, 0, 0, [], []⟩, rfl, rfl, ⟨Nat.zero_le _, fun _ => rfl, fun e => by cases e⟩, by rw [entC_app]; exact Qh8_1, by rw [entC_app]; exact H.pick [2, 1] kr _ rfl⟩

set_option maxRecDepth 100000 in
set_option maxHeartbeats 4000000 in
theorem add_more_some (xb ix now : Nat) (bq : Addr) (bc : Nat) (l : List Nat) (hbig : l.length ≤ 140737488355328) (E : List Ent) (ag cap : Nat) (rest : List Value) (lx : Ent) (hlt : E.length < 4) (h1 : 1 ≤ E.length) (hlx : E[E.length - 1]? = some lx) (hix : ix = add32 (lx.ix) (1)) (w : World) (hx : w.heap[xb]? = some (.cells #[.slice (some ⟨ag, 0, none⟩) E.length cap] 47 (0, 0))) (hag : w.heap[ag]? = some (.cells (sl (entC E) rest) 71 (0, 0))) (hO : Own (entC E) rest E.length cap 3) (hne : xb ≠ ag) (hb : Sv.RdK [xb, ag] w ⟨some bq, bc, l⟩) : Calls Try.prog 16 #[.pointer (some ⟨xb, 0, none⟩), .int .u32 ((ix : Nat) : Int), .slice (some bq) l.length bc, .int .u64 ((now : Nat) : Int)] w fun e w' => ∃ (r : SlR) (c : Cl), e = .returned (.int .i64 0) ∧ c.l = l ∧ c.ok ∧ Own (entC (E ++ [⟨ix, now, c⟩])) r.rest (E.length + 1) r.cap 3 ∧ Hp [xb, ag] w (⟨true, xb, .cells #[.slice (some ⟨r.g, 0, none⟩) (E.length + 1) r.cap] 47 (0, 0)⟩ :: ⟨true, r.g, .cells (sl (entC (E ++ [⟨ix, now, c⟩])) r.rest) 71 (0, 0)⟩ :: c.blks) w' := by
  
  refine C_enter Try.func16 rfl 49 Try.ntmps16 (Nat.le_of_ble_eq_true rfl) (fun a F => ?_)
  have H : Hp [xb, ag] w [bk xb #[sc ag 0 E.length cap] 47, bk ag (sl (entC E) rest) 71] w := Hp.startX2 hx hag hne
  replace F : Fm 49 [] [(0, pt xb 0), (1, nw ix), (2, .slice (some bq) l.length bc), (3, nu now)] a := F.weak _ (subL_of kr)
  have hE : E.length < 4 := hlt
  refine C_seqK (fun K1 hK1 => ?_)
  refine C_region ?_
  refine T_k F H (ni 0) ?_
  clear F; intro a F
  refine wpList_nil ?_
  refine hK1 _ _ ?_
  clear hK1
  try clear K1
  refine C_seqK (fun K2 hK2 => ?_)
  refine C_region ?_
  refine T_k F H (pt xb 0) ?_
  clear F; intro a F
  refine T_k F H (pt xb 0) ?_
  clear F; intro a F
  refine T_k F H (pt xb 0) ?_
  clear F; intro a F
  refine T_val F H kr (sc ag 0 E.length cap) (R_cell (own := true) (g := xb) (all := #[sc ag 0 E.length cap]) (t := 47) (fr := (0, 0)) 0 kr 45 (.tmp 12) rfl 0 kr (sc ag 0 E.length cap) kr _ Try.underlying45 rfl) ?_
  clear F; intro a F
  refine T_k F H (ni E.length) ?_
  clear F; intro a F
  refine T_k F H (ni E.length) ?_
  clear F; intro a F
  refine wpList_nil ?_
  refine hK2 _ _ ?_
  clear hK2
  try clear K2
  refine C_seqK (fun K3 hK3 => ?_)
  refine wp_block ?_
  refine C_seqK (fun K4 hK4 => ?_)
  refine C_region ?_
  refine T_k F H (ni E.length) ?_
  clear F; intro a F
  refine T_val F H kr (.bool false) (fun w _ => R_bin (x := (.tmp 16)) (y := (.const (.int .i64 4))) rfl (k := .i64) (a := ((E.length : Nat) : Int)) (b := ((4 : Nat) : Int)) kr kr (i_geqd.trans (by rw [decide_eq_false (by omega)])) w) ?_
  clear F; intro a F
  refine T_k F H (.bool false) ?_
  clear F; intro a F
  refine wpList_nil ?_
  refine hK4 _ _ ?_
  clear hK4
  try clear K4
  refine C_if F false rfl rfl ?_
  refine C_seqK (fun K5 hK5 => ?_)
  refine C_region ?_
  refine T_k F H (ni E.length) ?_
  clear F; intro a F
  refine T_val F H kr (.bool true) (fun w _ => R_bin (x := (.tmp 19)) (y := (.const (.int .i64 0))) rfl (k := .i64) (a := ((E.length : Nat) : Int)) (b := ((0 : Nat) : Int)) kr kr (i_gtn (by omega)) w) ?_
  clear F; intro a F
  refine T_k F H (.bool true) ?_
  clear F; intro a F
  refine T_k F H (nw ix) ?_
  clear F; intro a F
  refine T_k F H (pt xb 0) ?_
  clear F; intro a F
  refine T_k F H (pt xb 0) ?_
  clear F; intro a F
  refine T_k F H (pt xb 0) ?_
  clear F; intro a F
  refine T_val F H kr (sc ag 0 E.length cap) (R_cell (own := true) (g := xb) (all := #[sc ag 0 E.length cap]) (t := 47) (fr := (0, 0)) 0 kr 45 (.tmp 25) rfl 0 kr (sc ag 0 E.length cap) kr _ Try.underlying45 rfl) ?_
  clear F; intro a F
  refine T_k F H (ni E.length) ?_
  clear F; intro a F
  refine T_val F H kr (ni (E.length - 1)) (fun w _ => R_bin (x := (.tmp 27)) (y := (.const (.int .i64 1))) rfl (k := .i64) (a := ((E.length : Nat) : Int)) (b := ((1 : Nat) : Int)) kr kr (i_subn64 (a := E.length) (b := 1) (by omega) (by omega)) w) ?_
  clear F; intro a F
  refine T_val F H kr (pt ag (0 + ((E.length - 1)) * 3)) (fun w _ => R_indexS (k := .i64) (g := ag) (off := 0) (len := E.length) (cap := cap) (x := (.tmp 26)) (y := (.tmp 28)) rfl Try.underlying45 kr ((E.length - 1)) kr (by omega) (sz := 3) kr w) ?_
  clear F; intro a F
  refine T_k F H (pt ag ((0 + ((E.length - 1)) * 3) + 0)) ?_
  clear F; intro a F
  refine T_val F H kr (nw lx.ix) (R_cell (own := true) (g := ag) (all := (sl (entC E) rest)) (t := 71) (fr := (0, 0)) 1 kr 29 (.tmp 30) rfl ((0 + ((E.length - 1)) * 3) + 0) kr (nw lx.ix) (ent_ix hlx) _ Try.underlying29 rfl) ?_
  clear F; intro a F
  refine T_val F H kr (nw (add32 (lx.ix) (1))) (fun w _ => R_bin (x := (.tmp 31)) (y := (.const (.int .u32 1))) rfl (k := .u32) (a := ((lx.ix : Nat) : Int)) (b := ((1 : Nat) : Int)) kr kr (i_add32 (a := lx.ix) (b := 1)) w) ?_
  clear F; intro a F
  refine T_val F H kr (.bool false) (fun w _ => R_bin (x := (.tmp 22)) (y := (.tmp 32)) rfl (k := .u32) (a := ((ix : Nat) : Int)) (b := ((add32 (lx.ix) (1) : Nat) : Int)) kr kr (i_ned.trans (by rw [decide_eq_false (fun e => e hix)])) w) ?_
  clear F; intro a F
  refine T_k F H (.bool false) ?_
  clear F; intro a F
  refine T_k F H (.bool false) ?_
  clear F; intro a F
  refine wpList_nil ?_
  refine hK5 _ _ ?_
  clear hK5
  try clear K5
  refine C_if F false rfl rfl ?_
  refine wp_skip ?_
  refine hK3 _ _ ?_
  clear hK3
  try clear K3
  refine C_seqK (fun K6 hK6 => ?_)
  refine E_region F H (fun β => [(35, pt xb 0), (36, pt xb 0), (37, pt xb 0), (38, pt xb 0), (39, sc ag 0 E.length cap), (40, nw ix), (41, nu now), (42, .slice (some bq) l.length bc), (43, sc ((β 8).g) 0 l.length (β 8).cap), (44, .agg #[nw ix, nu now, sc ((β 8).g) 0 l.length (β 8).cap]), (45, sc ((β 10).g) 0 1 1), (46, sc ((β 11).g) 0 (E.length + 1) (β 11).cap), (47, pt xb 0), (48, pt xb 0)]) [35, 36, 37, 38, 39, 40, 41, 42, 43, 44, 45, 46, 47, 48] [⟨some 8, none, 0, [8], fun q_ => ce (sl (oct (l)) (gh q_ 0).rest) 5, fun q_ => Own (oct (l)) (gh q_ 0).rest (l.length) (gh q_ 0).cap 1, []⟩,
    ⟨some 10, none, 0, [8], fun q_ => ce (sl ([nw ix, nu now, sc ((gh q_ 0).g) 0 l.length (gh q_ 0).cap]) []) 71, gT, []⟩,
    ⟨some 11, none, 0, [8, 11], fun q_ => ce (sl ((entC E) ++ ([nw ix, nu now, sc ((gh q_ 0).g) 0 l.length (gh q_ 0).cap])) (gh q_ 1).rest) 71, fun q_ => Own ((entC E) ++ ([nw ix, nu now, sc ((gh q_ 0).g) 0 l.length (gh q_ 0).cap])) (gh q_ 1).rest ((E.length + 1)) (gh q_ 1).cap 3, []⟩,
    ⟨none, some 11, ag, [], fun q_ => ce (sl (entC E) rest) 71, gT, []⟩,
    ⟨none, none, xb, [], fun q_ => ce #[sc ag 0 E.length cap] 47, gT, [⟨14, [11], fun q_ => ce #[sc ((gh q_ 0).g) 0 (E.length + 1) (gh q_ 0).cap] 47, gT⟩]⟩] [] [1, 0] 2 [] kr kr kr (fun β => rfl) ⟨fun h _ => Bool.noConfusion h, ⟨fun h _ => Bool.noConfusion h, ⟨fun h _ => Bool.noConfusion h, ⟨fun _ _ => trivial, ⟨fun _ _ => trivial, trivial⟩⟩⟩⟩⟩ ⟨?_, ?_, ?_, ?_, ?_, ?_, ?_, ?_, ?_, ?_, ?_, ?_, ?_, ?_, ?_, trivial⟩ ?_
  · exact E_k 49 (fun β => pt xb 0) 35 2
  · exact E_k 49 (fun β => pt xb 0) 36 2
  · exact E_k 49 (fun β => pt xb 0) 37 2
  · exact E_k 49 (fun β => pt xb 0) 38 2
  · exact E_v 49 (fun β => sc ag 0 E.length cap) 39 2 [(4, 0)] (fun β w hk hl hq => R_cellH hl (own := true) (g := xb) (all := #[sc ag 0 E.length cap]) (t := 47) (fr := (0, 0)) 0 kr 45 (.tmp 38) rfl 0 kr (sc ag 0 E.length cap) kr _ Try.underlying45 rfl)
  · exact E_k 49 (fun β => nw ix) 40 2
  · exact E_k 49 (fun β => nu now) 41 2
  · exact E_k 49 (fun β => .slice (some bq) l.length bc) 42 2
  · exact E_callS 49 kq (fun β => sc ((β 8).g) 0 l.length (β 8).cap) 43 rfl kq 2 (fun β r => offAt2_of kr kr) 29 (fun β => #[.slice (some bq) l.length bc]) (fun β w => kr) 2 [] 0 _ rfl kr kr rfl (fun β w hk hl hq => clone_some bq l.length bc l rfl hbig _ ((hb _ hk).rds rfl))
  · exact E_k 49 (fun β => .agg #[nw ix, nu now, sc ((β 8).g) 0 l.length (β 8).cap]) 44 2
  · exact E_new 49 kq (fun β => sc ((β 10).g) 0 1 1) 45 rfl kq 2 (fun β r => offAt2_of kr kr) 2 [] 1 _ rfl kr kr rfl (fun β w hk hl hq => ⟨⟨w.heap.size, 0, [], 0⟩, _, (R_buildS (len := 1) rfl Try.underlying45 ((sl ([nw ix, nu now, sc ((β 8).g) 0 l.length (β 8).cap]) [])) kr w), trivial, Nat.le_refl _, heap_alloc_new _ _, Kept.alloc _ _⟩)
  · exact E_app 49 kq (fun β => sc ((β 11).g) 0 (E.length + 1) (β 11).cap) 46 rfl kq 2 (fun β r => offAt2_of kr kr) 2 [(1, 0)] 2 2 _ _ rfl rfl kr kr rfl rfl (fun β w hk hl hq hm => let ⟨r, w', h1, h2, h3, h4⟩ := run_app (size := 3) (bytes := 40) (t := 45) (e := 71) kr kr hO hm (x := sc ((β 10).g) 0 1 1) (m := 1) (news := [nw ix, nu now, sc ((β 8).g) 0 l.length (β 8).cap]) (RdS.all (hl.at_ (k := 0) rfl) (Nat.le_refl _)) rfl (by intro u hu; simp only [List.mem_cons, List.not_mem_nil, or_false] at hu; first | (subst hu; rfl) | (rcases hu with rfl | rfl | rfl <;> rfl)) (by simp only [maxLen]; omega) (by omega); ⟨r, w', exec_append (s := (.tmp 39)) (x := (.tmp 45)) rfl kr rfl h1, h2, h3, h4⟩)
  · exact E_k 49 (fun β => pt xb 0) 47 2
  · exact E_k 49 (fun β => pt xb 0) 48 2
  · exact E_store 49 kq rfl 2 [] 4 0 _ _ rfl rfl kr rfl (fun _ => trivial) (fun β w hk hl hq hm => let ⟨w', h1, h2, h3⟩ := P_cell (off := 0) (old := #[sc ag 0 E.length cap]) (v := sc ((β 11).g) 0 (E.length + 1) (β 11).cap) (Z := ce #[sc ag 0 E.length cap] 47) (R := ce #[sc ((β 11).g) 0 (E.length + 1) (β 11).cap] 47) rfl rfl (ty := 45) (x := (.tmp 48)) (y := (.tmp 46)) rfl kr kr rfl (Nat.le_of_ble_eq_true rfl) Try.underlying45 rfl kr hm; ⟨w', h1, h2, h3⟩)
  clear F H; intro β a v Q F H
  replace H : Hp [xb, ag] w [bk ((β 8).g) (sl (oct (l)) (β 8).rest) 5, bk ((β 10).g) (sl ([nw ix, nu now, sc ((β 8).g) 0 l.length (β 8).cap]) []) 71, bk ((β 11).g) (sl ((entC E) ++ ([nw ix, nu now, sc ((β 8).g) 0 l.length (β 8).cap])) (β 11).rest) 71, bk xb #[sc ((β 11).g) 0 (E.length + 1) (β 11).cap] 47] v := H
  replace F : Fm 49 [] [(48, pt xb 0), (47, pt xb 0), (46, sc ((β 11).g) 0 (E.length + 1) (β 11).cap), (45, sc ((β 10).g) 0 1 1), (44, .agg #[nw ix, nu now, sc ((β 8).g) 0 l.length (β 8).cap]), (43, sc ((β 8).g) 0 l.length (β 8).cap), (42, .slice (some bq) l.length bc), (41, nu now), (40, nw ix), (39, sc ag 0 E.length cap), (38, pt xb 0), (37, pt xb 0), (36, pt xb 0), (35, pt xb 0), (18, .bool false), (34, .bool false), (33, .bool false), (32, nw (add32 (lx.ix) (1))), (31, nw lx.ix), (30, pt ag ((0 + ((E.length - 1)) * 3) + 0)), (29, pt ag (0 + ((E.length - 1)) * 3)), (28, ni (E.length - 1)), (27, ni E.length), (26, sc ag 0 E.length cap), (25, pt xb 0), (24, pt xb 0), (23, pt xb 0), (22, nw ix), (21, .bool true), (20, .bool true), (19, ni E.length), (15, .bool false), (17, .bool false), (16, ni E.length), (9, ni E.length), (14, ni E.length), (13, sc ag 0 E.length cap), (12, pt xb 0), (11, pt xb 0), (10, pt xb 0), (8, ni 0), (0, pt xb 0), (1, nw ix), (2, .slice (some bq) l.length bc), (3, nu now)] a := F.weak _ (subL_of kr)
  have Qh9_0 : Own (oct (l)) (β 8).rest (l.length) (β 8).cap 1 := Q.1
  have Qh9_2 : Own ((entC E) ++ ([nw ix, nu now, sc ((β 8).g) 0 l.length (β 8).cap])) (β 11).rest ((E.length + 1)) (β 11).cap 3 := Q.2.2.2.2.1
  clear Q
  generalize β 8 = rq7 at F H Qh9_0 Qh9_2
  generalize β 10 = rq8 at F H Qh9_0 Qh9_2
  generalize β 11 = rq9 at F H Qh9_0 Qh9_2
  skip
  refine ?_
  refine hK6 _ _ ?_
  clear hK6
  try clear K6
  refine C_seqK (fun K10 hK10 => ?_)
  refine C_region ?_
  refine T_k F H (ni 0) ?_
  clear F; intro a F
  refine wpList_nil ?_
  refine hK10 _ _ ?_
  clear hK10
  try clear K10
  refine wp_ret ?_
  exact C_ret F H (rs := [.tmp 8]) rfl (vs := [ni 0]) (.tmp rfl .nil) (ni 0) rfl ⟨rq9, ⟨false, rq7.g, rq7.cap, rq7.rest, l⟩, rfl, rfl, ⟨hbig, (fun e => by cases e), fun _ => Qh9_0⟩, by rw [entC_app]; exact Qh9_2, by rw [entC_app]; exact H.pick [3, 2, 0] kr _ rfl⟩

set_option maxRecDepth 100000 in
set_option maxHeartbeats 4000000 in
theorem add_again_nil (xb ix now : Nat) (ag cap : Nat) (rest : List Value) (w : World) (hx : w.heap[xb]? = some (.cells #[.slice (some ⟨ag, 0, none⟩) 0 cap] 47 (0, 0))) (hag : w.heap[ag]? = some (.cells (sl [] rest) 71 (0, 0))) (hO : Own [] rest 0 cap 3) (hne : xb ≠ ag) : Calls Try.prog 16 #[.pointer (some ⟨xb, 0, none⟩), .int .u32 ((ix : Nat) : Int), .slice none 0 0, .int .u64 ((now : Nat) : Int)] w fun e w' => ∃ (r : SlR) (c : Cl), e = .returned (.int .i64 0) ∧ c.l = [] ∧ c.ok ∧ Own (entC [⟨ix, now, c⟩]) r.rest 1 r.cap 3 ∧ Hp [xb, ag] w (⟨true, xb, .cells #[.slice (some ⟨r.g, 0, none⟩) 1 r.cap] 47 (0, 0)⟩ :: ⟨true, r.g, .cells (sl (entC [⟨ix, now, c⟩]) r.rest) 71 (0, 0)⟩ :: c.blks) w' := by
  refine C_enter Try.func16 rfl 49 Try.ntmps16 (Nat.le_of_ble_eq_true rfl) (fun a F => ?_)
  have H : Hp [xb, ag] w [bk xb #[sc ag 0 0 cap] 47, bk ag (sl ([]) rest) 71] w := Hp.startX2 hx hag hne
  replace F : Fm 49 [] [(0, pt xb 0), (1, nw ix), (2, .slice none 0 0), (3, nu now)] a := F.weak _ (subL_of kr)
  refine C_seqK (fun K1 hK1 => ?_)
  refine C_region ?_
  refine T_k F H (ni 0) ?_
  clear F; intro a F
  refine wpList_nil ?_
  refine hK1 _ _ ?_
  clear hK1
  try clear K1
  refine C_seqK (fun K2 hK2 => ?_)
  refine C_region ?_
  refine T_k F H (pt xb 0) ?_
  clear F; intro a F
  refine T_k F H (pt xb 0) ?_
  clear F; intro a F
  refine T_k F H (pt xb 0) ?_
  clear F; intro a F
  refine T_val F H kr (sc ag 0 0 cap) (R_cell (own := true) (g := xb) (all := #[sc ag 0 0 cap]) (t := 47) (fr := (0, 0)) 0 kr 45 (.tmp 12) rfl 0 kr (sc ag 0 0 cap) kr _ Try.underlying45 rfl) ?_
  clear F; intro a F
  refine T_k F H (ni 0) ?_
  clear F; intro a F
  refine T_k F H (ni 0) ?_
  clear F; intro a F
  refine wpList_nil ?_
  refine hK2 _ _ ?_
  clear hK2
  try clear K2
  refine C_seqK (fun K3 hK3 => ?_)
  refine wp_block ?_
  refine C_seqK (fun K4 hK4 => ?_)
  refine C_region ?_
  refine T_k F H (ni 0) ?_
  clear F; intro a F
  refine T_val F H kr (.bool false) (fun w _ => R_bin (x := (.tmp 16)) (y := (.const (.int .i64 4))) rfl (k := .i64) (a := ((0 : Nat) : Int)) (b := ((4 : Nat) : Int)) kr kr kr w) ?_
  clear F; intro a F
  refine T_k F H (.bool false) ?_
  clear F; intro a F
  refine wpList_nil ?_
  refine hK4 _ _ ?_
  clear hK4
  try clear K4
  refine C_if F false rfl rfl ?_
  refine C_seqK (fun K5 hK5 => ?_)
  refine C_region ?_
  refine T_k F H (ni 0) ?_
  clear F; intro a F
  refine T_k F H (.bool false) ?_
  clear F; intro a F
  refine T_k F H (.bool false) ?_
  clear F; intro a F
  refine T_skip F kr kr ?_
  clear F; intro a F
  refine T_skip F kr kr ?_
  clear F; intro a F
  refine T_skip F kr kr ?_
  clear F; intro a F
  refine T_skip F kr kr ?_
  clear F; intro a F
  refine T_skip F kr kr ?_
  clear F; intro a F
  refine T_skip F kr kr ?_
  clear F; intro a F
  refine T_skip F kr kr ?_
  clear F; intro a F
  refine T_skip F kr kr ?_
  clear F; intro a F
  refine T_skip F kr kr ?_
  clear F; intro a F
  refine T_skip F kr kr ?_
  clear F; intro a F
  refine T_skip F kr kr ?_
  clear F; intro a F
  refine T_skip F kr kr ?_
  clear F; intro a F
  refine T_k F H (.bool false) ?_
  clear F; intro a F
  refine T_k F H (.bool false) ?_
  clear F; intro a F
  refine wpList_nil ?_
  refine hK5 _ _ ?_
  clear hK5
  try clear K5
  refine C_if F false rfl rfl ?_
  refine wp_skip ?_
  refine hK3 _ _ ?_
  clear hK3
  try clear K3
  refine C_seqK (fun K6 hK6 => ?_)
  refine E_region F H (fun β => [(35, pt xb 0), (36, pt xb 0), (37, pt xb 0), (38, pt xb 0), (39, sc ag 0 0 cap), (40, nw ix), (41, nu now), (42, .slice none 0 0), (43, .slice none 0 0), (44, .agg #[nw ix, nu now, .slice none 0 0]), (45, sc ((β 10).g) 0 1 1), (46, sc ((β 11).g) 0 (0 + 1) (β 11).cap), (47, pt xb 0), (48, pt xb 0)]) [35, 36, 37, 38, 39, 40, 41, 42, 43, 44, 45, 46, 47, 48] [⟨some 10, none, 0, [], fun q_ => ce (sl ([nw ix, nu now, .slice none 0 0]) []) 71, gT, []⟩,
    ⟨some 11, none, 0, [11], fun q_ => ce (sl (([]) ++ ([nw ix, nu now, .slice none 0 0])) (gh q_ 0).rest) 71, fun q_ => Own (([]) ++ ([nw ix, nu now, .slice none 0 0])) (gh q_ 0).rest ((0 + 1)) (gh q_ 0).cap 3, []⟩,
    ⟨none, some 11, ag, [], fun q_ => ce (sl ([]) rest) 71, gT, []⟩,
    ⟨none, none, xb, [], fun q_ => ce #[sc ag 0 0 cap] 47, gT, [⟨14, [11], fun q_ => ce #[sc ((gh q_ 0).g) 0 (0 + 1) (gh q_ 0).cap] 47, gT⟩]⟩] [] [1, 0] 2 [] kr kr kr (fun β => rfl) ⟨fun h _ => Bool.noConfusion h, ⟨fun h _ => Bool.noConfusion h, ⟨fun _ _ => trivial, ⟨fun _ _ => trivial, trivial⟩⟩⟩⟩ ⟨?_, ?_, ?_, ?_, ?_, ?_, ?_, ?_, ?_, ?_, ?_, ?_, ?_, ?_, ?_, trivial⟩ ?_
  · exact E_k 49 (fun β => pt xb 0) 35 2
  · exact E_k 49 (fun β => pt xb 0) 36 2
  · exact E_k 49 (fun β => pt xb 0) 37 2
  · exact E_k 49 (fun β => pt xb 0) 38 2
  · exact E_v 49 (fun β => sc ag 0 0 cap) 39 2 [(3, 0)] (fun β w hk hl hq => R_cellH hl (own := true) (g := xb) (all := #[sc ag 0 0 cap]) (t := 47) (fr := (0, 0)) 0 kr 45 (.tmp 38) rfl 0 kr (sc ag 0 0 cap) kr _ Try.underlying45 rfl)
  · exact E_k 49 (fun β => nw ix) 40 2
  · exact E_k 49 (fun β => nu now) 41 2
  · exact E_k 49 (fun β => .slice none 0 0) 42 2
  · exact E_call 49 kq (fun β => .slice none 0 0) 43 rfl kq 29 (fun β => #[.slice none 0 0]) (fun β w => kr) 2 [] kr rfl (fun β w hk hl hq => clone_nil _)
  · exact E_k 49 (fun β => .agg #[nw ix, nu now, .slice none 0 0]) 44 2
  · exact E_new 49 kq (fun β => sc ((β 10).g) 0 1 1) 45 rfl kq 2 (fun β r => offAt2_of kr kr) 2 [] 0 _ rfl kr kr rfl (fun β w hk hl hq => ⟨⟨w.heap.size, 0, [], 0⟩, _, (R_buildS (len := 1) rfl Try.underlying45 ((sl ([nw ix, nu now, .slice none 0 0]) [])) kr w), trivial, Nat.le_refl _, heap_alloc_new _ _, Kept.alloc _ _⟩)
  · exact E_app 49 kq (fun β => sc ((β 11).g) 0 (0 + 1) (β 11).cap) 46 rfl kq 2 (fun β r => offAt2_of kr kr) 2 [(0, 0)] 1 1 _ _ rfl rfl kr kr rfl rfl (fun β w hk hl hq hm => let ⟨r, w', h1, h2, h3, h4⟩ := run_app (size := 3) (bytes := 40) (t := 45) (e := 71) kr kr hO hm (x := sc ((β 10).g) 0 1 1) (m := 1) (news := [nw ix, nu now, .slice none 0 0]) (RdS.all (hl.at_ (k := 0) rfl) (Nat.le_refl _)) rfl (by intro u hu; simp only [List.mem_cons, List.not_mem_nil, or_false] at hu; first | (subst hu; rfl) | (rcases hu with rfl | rfl | rfl <;> rfl)) (by simp only [maxLen]; omega) (by omega); ⟨r, w', exec_append (s := (.tmp 39)) (x := (.tmp 45)) rfl kr rfl h1, h2, h3, h4⟩)
  · exact E_k 49 (fun β => pt xb 0) 47 2
  · exact E_k 49 (fun β => pt xb 0) 48 2
  · exact E_store 49 kq rfl 2 [] 3 0 _ _ rfl rfl kr rfl (fun _ => trivial) (fun β w hk hl hq hm => let ⟨w', h1, h2, h3⟩ := P_cell (off := 0) (old := #[sc ag 0 0 cap]) (v := sc ((β 11).g) 0 (0 + 1) (β 11).cap) (Z := ce #[sc ag 0 0 cap] 47) (R := ce #[sc ((β 11).g) 0 (0 + 1) (β 11).cap] 47) rfl rfl (ty := 45) (x := (.tmp 48)) (y := (.tmp 46)) rfl kr kr rfl (Nat.le_of_ble_eq_true rfl) Try.underlying45 rfl kr hm; ⟨w', h1, h2, h3⟩)
  clear F H; intro β a v Q F H
  replace H : Hp [xb, ag] w [bk ((β 10).g) (sl ([nw ix, nu now, .slice none 0 0]) []) 71, bk ((β 11).g) (sl (([]) ++ ([nw ix, nu now, .slice none 0 0])) (β 11).rest) 71, bk xb #[sc ((β 11).g) 0 (0 + 1) (β 11).cap] 47] v := H
  replace F : Fm 49 [] [(48, pt xb 0), (47, pt xb 0), (46, sc ((β 11).g) 0 (0 + 1) (β 11).cap), (45, sc ((β 10).g) 0 1 1), (44, .agg #[nw ix, nu now, .slice none 0 0]), (43, .slice none 0 0), (42, .slice none 0 0), (41, nu now), (40, nw ix), (39, sc ag 0 0 cap), (38, pt xb 0), (37, pt xb 0), (36, pt xb 0), (35, pt xb 0), (18, .bool false), (34, .bool false), (33, undef), (32, undef), (31, undef), (30, undef), (29, undef), (28, undef), (27, undef), (26, undef), (25, undef), (24, undef), (23, undef), (22, undef), (21, .bool false), (20, .bool false), (19, ni 0), (15, .bool false), (17, .bool false), (16, ni 0), (9, ni 0), (14, ni 0), (13, sc ag 0 0 cap), (12, pt xb 0), (11, pt xb 0), (10, pt xb 0), (8, ni 0), (0, pt xb 0), (1, nw ix), (2, .slice none 0 0), (3, nu now)] a := F.weak _ (subL_of kr)
  have Qh8_1 : Own (([]) ++ ([nw ix, nu now, .slice none 0 0])) (β 11).rest ((0 + 1)) (β 11).cap 3 := Q.2.2.1
  clear Q
  generalize β 10 = rq7 at F H Qh8_1
  generalize β 11 = rq8 at F H Qh8_1
  skip
  refine ?_
  refine hK6 _ _ ?_
  clear hK6
  try clear K6
  refine C_seqK (fun K9 hK9 => ?_)
  refine C_region ?_
  refine T_k F H (ni 0) ?_
  clear F; intro a F
  refine wpList_nil ?_
  refine hK9 _ _ ?_
  clear hK9
  try clear K9
  refine wp_ret ?_
  exact C_ret F H (rs := [.tmp 8]) rfl (vs := [ni 0]) (.tmp rfl .nil) (ni 0) rfl ⟨rq8, ⟨true, 0, 0, [], []⟩, rfl, rfl, ⟨Nat.zero_le _, fun _ => rfl, fun e => by cases e⟩, by have h1 := Qh8_1; rw [List.nil_append, Nat.zero_add] at h1; exact h1, by rw [List.nil_append] at H; exact H.pick [2, 1] kr _ rfl⟩

set_option maxRecDepth 100000 in
set_option maxHeartbeats 4000000 in
theorem add_again_some (xb ix now : Nat) (bq : Addr) (bc : Nat) (l : List Nat) (hbig : l.length ≤ 140737488355328) (ag cap : Nat) (rest : List Value) (w : World) (hx : w.heap[xb]? = some (.cells #[.slice (some ⟨ag, 0, none⟩) 0 cap] 47 (0, 0))) (hag : w.heap[ag]? = some (.cells (sl [] rest) 71 (0, 0))) (hO : Own [] rest 0 cap 3) (hne : xb ≠ ag) (hb : Sv.RdK [xb, ag] w ⟨some bq, bc, l⟩) : Calls Try.prog 16 #[.pointer (some ⟨xb, 0, none⟩), .int .u32 ((ix : Nat) : Int), .slice (some bq) l.length bc, .int .u64 ((now : Nat) : Int)] w fun e w' => ∃ (r : SlR) (c : Cl), e = .returned (.int .i64 0) ∧ c.l = l ∧ c.ok ∧ Own (entC [⟨ix, now, c⟩]) r.rest 1 r.cap 3 ∧ Hp [xb, ag] w (⟨true, xb, .cells #[.slice (some ⟨r.g, 0, none⟩) 1 r.cap] 47 (0, 0)⟩ :: ⟨true, r.g, .cells (sl (entC [⟨ix, now, c⟩]) r.rest) 71 (0, 0)⟩ :: c.blks) w' := by
  refine C_enter Try.func16 rfl 49 Try.ntmps16 (Nat.le_of_ble_eq_true rfl) (fun a F => ?_)
  have H : Hp [xb, ag] w [bk xb #[sc ag 0 0 cap] 47, bk ag (sl ([]) rest) 71] w := Hp.startX2 hx hag hne
  replace F : Fm 49 [] [(0, pt xb 0), (1, nw ix), (2, .slice (some bq) l.length bc), (3, nu now)] a := F.weak _ (subL_of kr)
  refine C_seqK (fun K1 hK1 => ?_)
  refine C_region ?_
  refine T_k F H (ni 0) ?_
  clear F; intro a F
  refine wpList_nil ?_
  refine hK1 _ _ ?_
  clear hK1
  try clear K1
  refine C_seqK (fun K2 hK2 => ?_)
  refine C_region ?_
  refine T_k F H (pt xb 0) ?_
  clear F; intro a F
  refine T_k F H (pt xb 0) ?_
  clear F; intro a F
  refine T_k F H (pt xb 0) ?_
  clear F; intro a F
  refine T_val F H kr (sc ag 0 0 cap) (R_cell (own := true) (g := xb) (all := #[sc ag 0 0 cap]) (t := 47) (fr := (0, 0)) 0 kr 45 (.tmp 12) rfl 0 kr (sc ag 0 0 cap) kr _ Try.underlying45 rfl) ?_
  clear F; intro a F
  refine T_k F H (ni 0) ?_
  clear F; intro a F
  refine T_k F H (ni 0) ?_
  clear F; intro a F
  refine wpList_nil ?_
  refine hK2 _ _ ?_
  clear hK2
  try clear K2
  refine C_seqK (fun K3 hK3 => ?_)
  refine wp_block ?_
  refine C_seqK (fun K4 hK4 => ?_)
  refine C_region ?_
  refine T_k F H (ni 0) ?_
  clear F; intro a F
  refine T_val F H kr (.bool false) (fun w _ => R_bin (x := (.tmp 16)) (y := (.const (.int .i64 4))) rfl (k := .i64) (a := ((0 : Nat) : Int)) (b := ((4 : Nat) : Int)) kr kr kr w) ?_
  clear F; intro a F
  refine T_k F H (.bool false) ?_
  clear F; intro a F
  refine wpList_nil ?_
  refine hK4 _ _ ?_
  clear hK4
  try clear K4
  refine C_if F false rfl rfl ?_
  refine C_seqK (fun K5 hK5 => ?_)
  refine C_region ?_
  refine T_k F H (ni 0) ?_
  clear F; intro a F
  refine T_k F H (.bool false) ?_
  clear F; intro a F
  refine T_k F H (.bool false) ?_
  clear F; intro a F
  refine T_skip F kr kr ?_
  clear F; intro a F
  refine T_skip F kr kr ?_
  clear F; intro a F
  refine T_skip F kr kr ?_
  clear F; intro a F
  refine T_skip F kr kr ?_
  clear F; intro a F
  refine T_skip F kr kr ?_
  clear F; intro a F
  refine T_skip F kr kr ?_
  clear F; intro a F
  refine T_skip F kr kr ?_
  clear F; intro a F
  refine T_skip F kr kr ?_
  clear F; intro a F
  refine T_skip F kr kr ?_
  clear F; intro a F
  refine T_skip F kr kr ?_
  clear F; intro a F
  refine T_skip F kr kr ?_
  clear F; intro a F
  refine T_skip F kr kr ?_
  clear F; intro a F
  refine T_k F H (.bool false) ?_
  clear F; intro a F
  refine T_k F H (.bool false) ?_
  clear F; intro a F
  refine wpList_nil ?_
  refine hK5 _ _ ?_
  clear hK5
  try clear K5
  refine C_if F false rfl rfl ?_
  refine wp_skip ?_
  refine hK3 _ _ ?_
  clear hK3
  try clear K3
  refine C_seqK (fun K6 hK6 => ?_)
  refine E_region F H (fun β => [(35, pt xb 0), (36, pt xb 0), (37, pt xb 0), (38, pt xb 0), (39, sc ag 0 0 cap), (40, nw ix), (41, nu now), (42, .slice (some bq) l.length bc), (43, sc ((β 8).g) 0 l.length (β 8).cap), (44, .agg #[nw ix, nu now, sc ((β 8).g) 0 l.length (β 8).cap]), (45, sc ((β 10).g) 0 1 1), (46, sc ((β 11).g) 0 (0 + 1) (β 11).cap), (47, pt xb 0), (48, pt xb 0)]) [35, 36, 37, 38, 39, 40, 41, 42, 43, 44, 45, 46, 47, 48] [⟨some 8, none, 0, [8], fun q_ => ce (sl (oct (l)) (gh q_ 0).rest) 5, fun q_ => Own (oct (l)) (gh q_ 0).rest (l.length) (gh q_ 0).cap 1, []⟩,
    ⟨some 10, none, 0, [8], fun q_ => ce (sl ([nw ix, nu now, sc ((gh q_ 0).g) 0 l.length (gh q_ 0).cap]) []) 71, gT, []⟩,
    ⟨some 11, none, 0, [8, 11], fun q_ => ce (sl (([]) ++ ([nw ix, nu now, sc ((gh q_ 0).g) 0 l.length (gh q_ 0).cap])) (gh q_ 1).rest) 71, fun q_ => Own (([]) ++ ([nw ix, nu now, sc ((gh q_ 0).g) 0 l.length (gh q_ 0).cap])) (gh q_ 1).rest ((0 + 1)) (gh q_ 1).cap 3, []⟩,
    ⟨none, some 11, ag, [], fun q_ => ce (sl ([]) rest) 71, gT, []⟩,
    ⟨none, none, xb, [], fun q_ => ce #[sc ag 0 0 cap] 47, gT, [⟨14, [11], fun q_ => ce #[sc ((gh q_ 0).g) 0 (0 + 1) (gh q_ 0).cap] 47, gT⟩]⟩] [] [1, 0] 2 [] kr kr kr (fun β => rfl) ⟨fun h _ => Bool.noConfusion h, ⟨fun h _ => Bool.noConfusion h, ⟨fun h _ => Bool.noConfusion h, ⟨fun _ _ => trivial, ⟨fun _ _ => trivial, trivial⟩⟩⟩⟩⟩ ⟨?_, ?_, ?_, ?_, ?_, ?_, ?_, ?_, ?_, ?_, ?_, ?_, ?_, ?_, ?_, trivial⟩ ?_
  · exact E_k 49 (fun β => pt xb 0) 35 2
  · exact E_k 49 (fun β => pt xb 0) 36 2
  · exact E_k 49 (fun β => pt xb 0) 37 2
  · exact E_k 49 (fun β => pt xb 0) 38 2
  · exact E_v 49 (fun β => sc ag 0 0 cap) 39 2 [(4, 0)] (fun β w hk hl hq => R_cellH hl (own := true) (g := xb) (all := #[sc ag 0 0 cap]) (t := 47) (fr := (0, 0)) 0 kr 45 (.tmp 38) rfl 0 kr (sc ag 0 0 cap) kr _ Try.underlying45 rfl)
  · exact E_k 49 (fun β => nw ix) 40 2
  · exact E_k 49 (fun β => nu now) 41 2
  · exact E_k 49 (fun β => .slice (some bq) l.length bc) 42 2
  · exact E_callS 49 kq (fun β => sc ((β 8).g) 0 l.length (β 8).cap) 43 rfl kq 2 (fun β r => offAt2_of kr kr) 29 (fun β => #[.slice (some bq) l.length bc]) (fun β w => kr) 2 [] 0 _ rfl kr kr rfl (fun β w hk hl hq => clone_some bq l.length bc l rfl hbig _ ((hb _ hk).rds rfl))
  · exact E_k 49 (fun β => .agg #[nw ix, nu now, sc ((β 8).g) 0 l.length (β 8).cap]) 44 2
  · exact E_new 49 kq (fun β => sc ((β 10).g) 0 1 1) 45 rfl kq 2 (fun β r => offAt2_of kr kr) 2 [] 1 _ rfl kr kr rfl (fun β w hk hl hq => ⟨⟨w.heap.size, 0, [], 0⟩, _, (R_buildS (len := 1) rfl Try.underlying45 ((sl ([nw ix, nu now, sc ((β 8).g) 0 l.length (β 8).cap]) [])) kr w), trivial, Nat.le_refl _, heap_alloc_new _ _, Kept.alloc _ _⟩)
  · exact E_app 49 kq (fun β => sc ((β 11).g) 0 (0 + 1) (β 11).cap) 46 rfl kq 2 (fun β r => offAt2_of kr kr) 2 [(1, 0)] 2 2 _ _ rfl rfl kr kr rfl rfl (fun β w hk hl hq hm => let ⟨r, w', h1, h2, h3, h4⟩ := run_app (size := 3) (bytes := 40) (t := 45) (e := 71) kr kr hO hm (x := sc ((β 10).g) 0 1 1) (m := 1) (news := [nw ix, nu now, sc ((β 8).g) 0 l.length (β 8).cap]) (RdS.all (hl.at_ (k := 0) rfl) (Nat.le_refl _)) rfl (by intro u hu; simp only [List.mem_cons, List.not_mem_nil, or_false] at hu; first | (subst hu; rfl) | (rcases hu with rfl | rfl | rfl <;> rfl)) (by simp only [maxLen]; omega) (by omega); ⟨r, w', exec_append (s := (.tmp 39)) (x := (.tmp 45)) rfl kr rfl h1, h2, h3, h4⟩)
  · exact E_k 49 (fun β => pt xb 0) 47 2
  · exact E_k 49 (fun β => pt xb 0) 48 2
  · exact E_store 49 kq rfl 2 [] 4 0 _ _ rfl rfl kr rfl (fun _ => trivial) (fun β w hk hl hq hm => let ⟨w', h1, h2, h3⟩ := P_cell (off := 0) (old := #[sc ag 0 0 cap]) (v := sc ((β 11).g) 0 (0 + 1) (β 11).cap) (Z := ce #[sc ag 0 0 cap] 47) (R := ce #[sc ((β 11).g) 0 (0 + 1) (β 11).cap] 47) rfl rfl (ty := 45) (x := (.tmp 48)) (y := (.tmp 46)) rfl kr kr rfl (Nat.le_of_ble_eq_true rfl) Try.underlying45 rfl kr hm; ⟨w', h1, h2, h3⟩)
  clear F H; intro β a v Q F H
  replace H : Hp [xb, ag] w [bk ((β 8).g) (sl (oct (l)) (β 8).rest) 5, bk ((β 10).g) (sl ([nw ix, nu now, sc ((β 8).g) 0 l.length (β 8).cap]) []) 71, bk ((β 11).g) (sl (([]) ++ ([nw ix, nu now, sc ((β 8).g) 0 l.length (β 8).cap])) (β 11).rest) 71, bk xb #[sc ((β 11).g) 0 (0 + 1) (β 11).cap] 47] v := H
  replace F : Fm 49 [] [(48, pt xb 0), (47, pt xb 0), (46, sc ((β 11).g) 0 (0 + 1) (β 11).cap), (45, sc ((β 10).g) 0 1 1), (44, .agg #[nw ix, nu now, sc ((β 8).g) 0 l.length (β 8).cap]), (43, sc ((β 8).g) 0 l.length (β 8).cap), (42, .slice (some bq) l.length bc), (41, nu now), (40, nw ix), (39, sc ag 0 0 cap), (38, pt xb 0), (37, pt xb 0), (36, pt xb 0), (35, pt xb 0), (18, .bool false), (34, .bool false), (33, undef), (32, undef), (31, undef), (30, undef), (29, undef), (28, undef), (27, undef), (26, undef), (25, undef), (24, undef), (23, undef), (22, undef), (21, .bool false), (20, .bool false), (19, ni 0), (15, .bool false), (17, .bool false), (16, ni 0), (9, ni 0), (14, ni 0), (13, sc ag 0 0 cap), (12, pt xb 0), (11, pt xb 0), (10, pt xb 0), (8, ni 0), (0, pt xb 0), (1, nw ix), (2, .slice (some bq) l.length bc), (3, nu now)] a := F.weak _ (subL_of kr)
  have Qh9_0 : Own (oct (l)) (β 8).rest (l.length) (β 8).cap 1 := Q.1
  have Qh9_2 : Own (([]) ++ ([nw ix, nu now, sc ((β 8).g) 0 l.length (β 8).cap])) (β 11).rest ((0 + 1)) (β 11).cap 3 := Q.2.2.2.2.1
  clear Q
  generalize β 8 = rq7 at F H Qh9_0 Qh9_2
  generalize β 10 = rq8 at F H Qh9_0 Qh9_2
  generalize β 11 = rq9 at F H Qh9_0 Qh9_2
  skip
  refine ?_
  refine hK6 _ _ ?_
  clear hK6
  try clear K6
  refine C_seqK (fun K10 hK10 => ?_)
  refine C_region ?_
  refine T_k F H (ni 0) ?_
  clear F; intro a F
  refine wpList_nil ?_
  refine hK10 _ _ ?_
  clear hK10
  try clear K10
  refine wp_ret ?_
  exact C_ret F H (rs := [.tmp 8]) rfl (vs := [ni 0]) (.tmp rfl .nil) (ni 0) rfl ⟨rq9, ⟨false, rq7.g, rq7.cap, rq7.rest, l⟩, rfl, rfl, ⟨hbig, (fun e => by cases e), fun _ => Qh9_0⟩, by have h1 := Qh9_2; rw [List.nil_append, Nat.zero_add] at h1; exact h1, by rw [List.nil_append] at H; exact H.pick [3, 2, 0] kr _ rfl⟩

theorem Hp.start22 {w : World} {a b : Nat} {oa ob : Obj} (ha : w.heap[a]? = some oa) (hb : w.heap[b]? = some ob) (hne : a ≠ b) : Hp [] w [⟨false, a, oa⟩, ⟨false, b, ob⟩] w :=
  ⟨Kept.refl _ _, (fun p hp => by
    simp only [List.mem_cons, List.not_mem_nil, or_false] at hp
    rcases hp with rfl | rfl
    · exact ha
    · exact hb), (fun p hp ho => by
    simp only [List.mem_cons, List.not_mem_nil, or_false] at hp
    rcases hp with rfl | rfl
    · cases ho
    · cases ho), by
    refine List.pairwise_cons.2 ⟨fun q hq => ?_, List.pairwise_singleton _ _⟩
    simp only [List.mem_singleton] at hq
    subst hq
    exact hne⟩


set_option maxRecDepth 100000 in
set_option maxHeartbeats 4000000 in
theorem add_full (xb ix now : Nat) (bV : Value) (E : List Ent) (ag cap : Nat) (rest : List Value) (hEs : E.length < 1000000) (hlt : 4 ≤ E.length) (w : World) (hx : w.heap[xb]? = some (.cells #[.slice (some ⟨ag, 0, none⟩) E.length cap] 47 (0, 0))) (hag : w.heap[ag]? = some (.cells (sl (entC E) rest) 71 (0, 0))) (hne : xb ≠ ag) : Calls Try.prog 16 #[.pointer (some ⟨xb, 0, none⟩), .int .u32 ((ix : Nat) : Int), bV, .int .u64 ((now : Nat) : Int)] w fun e w' => e = .returned (.int .i64 63) ∧ Kept [] w w' := by
  refine C_enter Try.func16 rfl 49 Try.ntmps16 (Nat.le_of_ble_eq_true rfl) (fun a F => ?_)
  have H : Hp [] w [br xb #[sc ag 0 E.length cap] 47, br ag (sl (entC E) rest) 71] w := Hp.start22 hx hag hne
  replace F : Fm 49 [] [(0, pt xb 0), (1, nw ix), (2, bV), (3, nu now)] a := F.weak _ (subL_of kr)
  refine C_seqK (fun K1 hK1 => ?_)
  refine C_region ?_
  refine T_k F H (ni 0) ?_
  clear F; intro a F
  refine wpList_nil ?_
  refine hK1 _ _ ?_
  clear hK1
  try clear K1
  refine C_seqK (fun K2 hK2 => ?_)
  refine C_region ?_
  refine T_k F H (pt xb 0) ?_
  clear F; intro a F
  refine T_k F H (pt xb 0) ?_
  clear F; intro a F
  refine T_k F H (pt xb 0) ?_
  clear F; intro a F
  refine T_val F H kr (sc ag 0 E.length cap) (R_cell (own := false) (g := xb) (all := #[sc ag 0 E.length cap]) (t := 47) (fr := (0, 0)) 0 kr 45 (.tmp 12) rfl 0 kr (sc ag 0 E.length cap) kr _ Try.underlying45 rfl) ?_
  clear F; intro a F
  refine T_k F H (ni E.length) ?_
  clear F; intro a F
  refine T_k F H (ni E.length) ?_
  clear F; intro a F
  refine wpList_nil ?_
  refine hK2 _ _ ?_
  clear hK2
  try clear K2
  refine C_seqK (fun K3 hK3 => ?_)
  refine wp_block ?_
  refine C_seqK (fun K4 hK4 => ?_)
  refine C_region ?_
  refine T_k F H (ni E.length) ?_
  clear F; intro a F
  refine T_val F H kr (.bool true) (fun w _ => R_bin (x := (.tmp 16)) (y := (.const (.int .i64 4))) rfl (k := .i64) (a := ((E.length : Nat) : Int)) (b := ((4 : Nat) : Int)) kr kr (i_geqd.trans (by rw [decide_eq_true (by omega)])) w) ?_
  clear F; intro a F
  refine T_k F H (.bool true) ?_
  clear F; intro a F
  refine wpList_nil ?_
  refine hK4 _ _ ?_
  clear hK4
  try clear K4
  refine C_if F true rfl rfl ?_
  refine C_seqK (fun K5 hK5 => ?_)
  refine C_region ?_
  refine T_k F H (ni 63) ?_
  clear F; intro a F
  refine wpList_nil ?_
  refine hK5 _ _ ?_
  clear hK5
  try clear K5
  refine wp_ret ?_
  repeat (first | with_reducible refine then_ret ?_ | with_reducible refine inB_ret ?_)
  exact C_ret F H (rs := [.tmp 8]) rfl (vs := [ni 63]) (.tmp rfl .nil) (ni 63) rfl ⟨rfl, H.kept⟩

set_option maxRecDepth 100000 in
set_option maxHeartbeats 4000000 in
theorem add_bad (xb ix now : Nat) (bV : Value) (E : List Ent) (ag cap : Nat) (rest : List Value) (hEs : E.length < 1000000) (lx : Ent) (hlt : E.length < 4) (h1 : 1 ≤ E.length) (hlx : E[E.length - 1]? = some lx) (hix : ix ≠ add32 (lx.ix) (1)) (w : World) (hx : w.heap[xb]? = some (.cells #[.slice (some ⟨ag, 0, none⟩) E.length cap] 47 (0, 0))) (hag : w.heap[ag]? = some (.cells (sl (entC E) rest) 71 (0, 0))) (hne : xb ≠ ag) : Calls Try.prog 16 #[.pointer (some ⟨xb, 0, none⟩), .int .u32 ((ix : Nat) : Int), bV, .int .u64 ((now : Nat) : Int)] w fun e w' => e = .returned (.int .i64 1) ∧ Kept [] w w' := by
  refine C_enter Try.func16 rfl 49 Try.ntmps16 (Nat.le_of_ble_eq_true rfl) (fun a F => ?_)
  have H : Hp [] w [br xb #[sc ag 0 E.length cap] 47, br ag (sl (entC E) rest) 71] w := Hp.start22 hx hag hne
  replace F : Fm 49 [] [(0, pt xb 0), (1, nw ix), (2, bV), (3, nu now)] a := F.weak _ (subL_of kr)
  refine C_seqK (fun K1 hK1 => ?_)
  refine C_region ?_
  refine T_k F H (ni 0) ?_
  clear F; intro a F
  refine wpList_nil ?_
  refine hK1 _ _ ?_
  clear hK1
  try clear K1
  refine C_seqK (fun K2 hK2 => ?_)
  refine C_region ?_
  refine T_k F H (pt xb 0) ?_
  clear F; intro a F
  refine T_k F H (pt xb 0) ?_
  clear F; intro a F
  refine T_k F H (pt xb 0) ?_
  clear F; intro a F
  refine T_val F H kr (sc ag 0 E.length cap) (R_cell (own := false) (g := xb) (all := #[sc ag 0 E.length cap]) (t := 47) (fr := (0, 0)) 0 kr 45 (.tmp 12) rfl 0 kr (sc ag 0 E.length cap) kr _ Try.underlying45 rfl) ?_
  clear F; intro a F
  refine T_k F H (ni E.length) ?_
  clear F; intro a F
  refine T_k F H (ni E.length) ?_
  clear F; intro a F
  refine wpList_nil ?_
  refine hK2 _ _ ?_
  clear hK2
  try clear K2
  refine C_seqK (fun K3 hK3 => ?_)
  refine wp_block ?_
  refine C_seqK (fun K4 hK4 => ?_)
  refine C_region ?_
  refine T_k F H (ni E.length) ?_
  clear F; intro a F
  refine T_val F H kr (.bool false) (fun w _ => R_bin (x := (.tmp 16)) (y := (.const (.int .i64 4))) rfl (k := .i64) (a := ((E.length : Nat) : Int)) (b := ((4 : Nat) : Int)) kr kr (i_geqd.trans (by rw [decide_eq_false (by omega)])) w) ?_
  clear F; intro a F
  refine T_k F H (.bool false) ?_
  clear F; intro a F
  refine wpList_nil ?_
  refine hK4 _ _ ?_
  clear hK4
  try clear K4
  refine C_if F false rfl rfl ?_
  refine C_seqK (fun K5 hK5 => ?_)
  refine C_region ?_
  refine T_k F H (ni E.length) ?_
  clear F; intro a F
  refine T_val F H kr (.bool true) (fun w _ => R_bin (x := (.tmp 19)) (y := (.const (.int .i64 0))) rfl (k := .i64) (a := ((E.length : Nat) : Int)) (b := ((0 : Nat) : Int)) kr kr (i_gtn (by omega)) w) ?_
  clear F; intro a F
  refine T_k F H (.bool true) ?_
  clear F; intro a F
  refine T_k F H (nw ix) ?_
  clear F; intro a F
  refine T_k F H (pt xb 0) ?_
  clear F; intro a F
  refine T_k F H (pt xb 0) ?_
  clear F; intro a F
  refine T_k F H (pt xb 0) ?_
  clear F; intro a F
  refine T_val F H kr (sc ag 0 E.length cap) (R_cell (own := false) (g := xb) (all := #[sc ag 0 E.length cap]) (t := 47) (fr := (0, 0)) 0 kr 45 (.tmp 25) rfl 0 kr (sc ag 0 E.length cap) kr _ Try.underlying45 rfl) ?_
  clear F; intro a F
  refine T_k F H (ni E.length) ?_
  clear F; intro a F
  refine T_val F H kr (ni (E.length - 1)) (fun w _ => R_bin (x := (.tmp 27)) (y := (.const (.int .i64 1))) rfl (k := .i64) (a := ((E.length : Nat) : Int)) (b := ((1 : Nat) : Int)) kr kr (i_subn64 (a := E.length) (b := 1) (by omega) (by omega)) w) ?_
  clear F; intro a F
  refine T_val F H kr (pt ag (0 + ((E.length - 1)) * 3)) (fun w _ => R_indexS (k := .i64) (g := ag) (off := 0) (len := E.length) (cap := cap) (x := (.tmp 26)) (y := (.tmp 28)) rfl Try.underlying45 kr ((E.length - 1)) kr (by omega) (sz := 3) kr w) ?_
  clear F; intro a F
  refine T_k F H (pt ag ((0 + ((E.length - 1)) * 3) + 0)) ?_
  clear F; intro a F
  refine T_val F H kr (nw lx.ix) (R_cell (own := false) (g := ag) (all := (sl (entC E) rest)) (t := 71) (fr := (0, 0)) 1 kr 29 (.tmp 30) rfl ((0 + ((E.length - 1)) * 3) + 0) kr (nw lx.ix) (ent_ix hlx) _ Try.underlying29 rfl) ?_
  clear F; intro a F
  refine T_val F H kr (nw (add32 (lx.ix) (1))) (fun w _ => R_bin (x := (.tmp 31)) (y := (.const (.int .u32 1))) rfl (k := .u32) (a := ((lx.ix : Nat) : Int)) (b := ((1 : Nat) : Int)) kr kr (i_add32 (a := lx.ix) (b := 1)) w) ?_
  clear F; intro a F
  refine T_val F H kr (.bool true) (fun w _ => R_bin (x := (.tmp 22)) (y := (.tmp 32)) rfl (k := .u32) (a := ((ix : Nat) : Int)) (b := ((add32 (lx.ix) (1) : Nat) : Int)) kr kr (i_ned.trans (by rw [decide_eq_true hix])) w) ?_
  clear F; intro a F
  refine T_k F H (.bool true) ?_
  clear F; intro a F
  refine T_k F H (.bool true) ?_
  clear F; intro a F
  refine wpList_nil ?_
  refine hK5 _ _ ?_
  clear hK5
  try clear K5
  refine C_if F true rfl rfl ?_
  refine C_seqK (fun K6 hK6 => ?_)
  refine C_region ?_
  refine T_k F H (ni 1) ?_
  clear F; intro a F
  refine wpList_nil ?_
  refine hK6 _ _ ?_
  clear hK6
  try clear K6
  refine wp_ret ?_
  repeat (first | with_reducible refine then_ret ?_ | with_reducible refine inB_ret ?_)
  exact C_ret F H (rs := [.tmp 8]) rfl (vs := [ni 1]) (.tmp rfl .nil) (ni 1) rfl ⟨rfl, H.kept⟩

set_option maxRecDepth 100000 in
set_option maxHeartbeats 4000000 in
theorem len_any (xb : Nat) (q : Option Addr) (n c : Nat) (w : World) (hx : w.heap[xb]? = some (.cells #[.slice q n c] 47 (0, 0))) : Calls Try.prog 19 #[.pointer (some ⟨xb, 0, none⟩)] w fun e w' => e = .returned (.int .i64 ((n : Nat) : Int)) ∧ Kept [] w w' := by
  refine C_enter Try.func19 rfl 8 Try.ntmps19 (Nat.le_of_ble_eq_true rfl) (fun a F => ?_)
  have H := Hp.start1 [] hx
  replace F : Fm 8 [] [(0, pt xb 0)] a := F.weak _ (subL_of kr)
  refine C_seqK (fun K1 hK1 => ?_)
  refine C_region ?_
  refine T_k F H (ni 0) ?_
  clear F; intro a F
  refine wpList_nil ?_
  refine hK1 _ _ ?_
  clear hK1
  try clear K1
  refine C_seqK (fun K2 hK2 => ?_)
  refine C_region ?_
  refine T_k F H (pt xb 0) ?_
  clear F; intro a F
  refine T_k F H (pt xb 0) ?_
  clear F; intro a F
  refine T_k F H (pt xb 0) ?_
  clear F; intro a F
  refine T_val F H kr (.slice q n c) (R_cell  0 rfl 45 (.tmp 5) rfl 0 kr (.slice q n c) kr _ Try.underlying45 rfl) ?_
  clear F; intro a F
  refine T_k F H (ni n) ?_
  clear F; intro a F
  refine T_k F H (ni n) ?_
  clear F; intro a F
  refine wpList_nil ?_
  refine hK2 _ _ ?_
  clear hK2
  try clear K2
  refine wp_ret ?_
  exact C_ret F H (rs := [.tmp 2]) rfl (vs := [ni n]) (.tmp rfl .nil) (ni n) rfl ⟨rfl, H.kept⟩
end Go.Proofs.Ytlnlppmhiobgjaa
