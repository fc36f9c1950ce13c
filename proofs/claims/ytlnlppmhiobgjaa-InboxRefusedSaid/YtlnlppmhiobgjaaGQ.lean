/- Walks: law22's awake. -/
import Derived.Test.YtlnlppmhiobgjaaGP
set_option linter.unusedVariables false
set_option linter.unusedSimpArgs false
namespace Go.Proofs.Ytlnlppmhiobgjaa
open Go Go.RowKit
theorem i0_ok : (⟨true, 0, 0, [], true, none, r0, []⟩ : InS).ok := ⟨fun _ => rfl, (fun h => by cases h), fun _ => rfl, (fun h => by cases h), (fun c hc => by cases hc), Nat.zero_le _⟩
theorem same_true (x y : Sv) {u v : Value} {w : World} (hu : x.v = u) (hv : y.v = v) (hx : x.Rd w) (hy : y.Rd w) (h : x.l = y.l) : Calls Try.prog 12 #[u, v] w fun e w' => e = .returned (.bool true) ∧ Kept [] w w' := by
  subst hu hv
  exact (same_any x.ad x.c x.l y.ad y.c y.l w hx hy).mono fun e w' ⟨h1, h2⟩ => ⟨by rw [h1, decide_eq_true h], h2⟩
theorem Sv.rd_own {w : World} {g : Nat} {l : List Nat} {r : List Value} (hb : l.length ≤ 140737488355328) (hg : w.heap[g]? = some (.cells (sl (oct l) r) 5 (0, 0))) : Sv.Rd w ⟨some ⟨g, 0, none⟩, l.length, l⟩ := ⟨Nat.le_refl _, (fun h => by cases h), hb, fun _ => ⟨g, 0, rfl, RdB.all hg⟩⟩
theorem InS.ads_sub (s : InS) (xb : Nat) : ∀ y ∈ s.ads xb, ∃ p ∈ s.blks xb, p.own = true ∧ p.ad = y := by
  obtain ⟨mnl, mb, clock, M, nb, ad, r, cs⟩ := s
  intro y hy
  unfold InS.ads at hy
  rcases List.mem_cons.1 hy with rfl | hy
  · exact ⟨_, List.mem_cons_self .., rfl, rfl⟩
  · rcases List.mem_append.1 hy with hy | hy
    · cases mnl with
      | true => cases hy
      | false => rw [List.mem_singleton.1 hy]; exact ⟨_, List.mem_cons_of_mem _ (List.mem_append_left _ (List.mem_cons_self ..)), rfl, rfl⟩
    · cases nb with
      | true => cases hy
      | false => rw [List.mem_singleton.1 hy]; exact ⟨_, List.mem_cons_of_mem _ (List.mem_append_right _ (List.mem_cons_self ..)), rfl, rfl⟩
theorem ix_rdK {X : List Nat} {w0 w : World} {xb : Nat} {s : InS} {R : List Blk} (H : Hp X w0 (s.blks xb ++ R) w) {p : Blk} (hp : p ∈ R) {l : List Nat} {r : List Value} {c : Nat} (hob : p.ob = .cells (sl (oct l) r) 5 (0, 0)) (hc : l.length ≤ c) (hb : l.length ≤ 140737488355328) : Sv.RdK (s.ads xb) w ⟨some ⟨p.ad, 0, none⟩, c, l⟩ := fun w' k => by
  have hg : w.heap[p.ad]? = some (.cells (sl (oct l) r) 5 (0, 0)) := by rw [← hob]; exact H.held p (List.mem_append_right _ hp)
  have hx : p.ad ∉ s.ads xb := fun h => by
    obtain ⟨q, hq, _, e⟩ := s.ads_sub xb _ h
    exact (List.pairwise_append.1 H.far).2.2 q hq p hp e
  exact ⟨hc, (fun h => by cases h), hb, fun _ => ⟨p.ad, 0, rfl, RdB.all ((k.block _ (heap_in hg) hx).trans hg)⟩⟩
theorem ix_rd0 {w0 w : World} {xb : Nat} {s : InS} {R : List Blk} {b : Sv} (H : Hp [] w0 (s.blks xb ++ R) w) (h : b.Rd w0) : b.RdK (s.ads xb) w := fun w' k =>
  h.kept (H.kept.trans (fun y hy => by
    obtain ⟨p, hp, ho, e⟩ := s.ads_sub xb y hy
    have := H.own p (List.mem_append_left _ hp) ho
    rwa [e] at this) k)

set_option maxRecDepth 100000 in
set_option maxHeartbeats 4000000 in
theorem awake22_any (w : World) : Calls Try.prog 8 #[] w fun e w' => e = .returned (.bool true) ∧ Kept [] w w' := by
  have D0 : (⟨true, 0, 0, [], true, none, r0, []⟩ : InS).hD = [] := rfl
  have U0 : (⟨true, 0, 0, [], true, none, r0, []⟩ : InS).U = [] := rfl
  refine C_enter Try.func8 rfl 104 Try.ntmps8 (Nat.le_of_ble_eq_true rfl) (fun a F => ?_)
  have H := Hp.start [] w
  replace F : Fm 104 [] [] a := F.weak _ (subL_of kr)
  refine C_seqK (fun K1 hK1 => ?_)
  refine C_region ?_
  refine T_k F H (.bool false) ?_
  clear F; intro a F
  refine wpList_nil ?_
  refine hK1 _ _ ?_
  clear hK1
  try clear K1
  refine C_seqK (fun K2 hK2 => ?_)
  refine C_region ?_
  refine T_k F H (.agg #[.map none, .slice none 0 0]) ?_
  clear F; intro a F
  refine T_new F H kr (fun ad => pt ad 0) (ce #[.map none, .slice none 0 0] 28) (fun w => kr) ?_
  clear F H; intro aq3 a v F H
  refine T_k F H (pt aq3 0) ?_
  clear F; intro a F
  refine wpList_nil ?_
  replace H : Hp [] w [bk aq3 #[.map none, .slice none 0 0] 28] v := H.pick [0] kr _ rfl
  generalize aq3 = xb at F H
  replace H : Hp [] w ((⟨true, 0, 0, [], true, none, r0, []⟩ : InS).blks xb ++ []) v := H
  refine hK2 _ _ ?_
  clear hK2
  try clear K2
  refine C_seqK (fun K4 hK4 => ?_)
  refine C_region ?_
  refine T_k F H (pt xb 0) ?_
  clear F; intro a F
  refine T_new F H kr (fun ad => sc ad 0 1 1) (ce (sl (ints .u8 [97]) []) 5) (fun w => R_buildS (len := 1) rfl Try.underlying30 ((sl (ints .u8 [97]) [])) kr w) ?_
  clear F H; intro aq5 a v F H
  replace H : Hp [] w ((⟨true, 0, 0, [], true, none, r0, []⟩ : InS).blks xb ++ ((bk aq5 (sl (ints .u8 [97]) []) 5) :: [])) v := H.perm List.perm_middle.symm
  refine T_callX (α := InS) F H kr 20 #[pt xb 0, nw 2, nw 3, sc aq5 0 1 1] (fun rX => .int .i64 0) (fun rX => rX.blks xb ++ ((bk aq5 (sl (ints .u8 [97]) []) 5) :: [])) (fun rX => rX.ok ∧ rX.U = (⟨true, 0, 0, [], true, none, r0, []⟩ : InS).U ∧ rX.hD = (⟨true, 0, 0, [], true, none, r0, []⟩ : InS).hD ++ [(3, [97])]) (fun w => kr) (fun w H => (hold_SA i0_ok H 2 3 ⟨some ⟨aq5, 0, none⟩, 1, [97]⟩ (ix_rdK H (p := (bk aq5 (sl (ints .u8 [97]) []) 5)) (List.mem_cons_self ..) rfl (Nat.le_refl _) (by show 1 ≤ 140737488355328; omega)) (by decide) (by decide) (by decide) (fun d hd => by rw [D0] at hd; cases hd)).mono fun _ _ ⟨s', q1, q2, q3⟩ => ⟨s', q1, q2, q3⟩) ?_
  clear F H; intro s6 a v Qs6 F H
  have Ds6 : s6.hD = [(3, [97])] := by rw [Qs6.2.2, D0]; rfl
  have Us6 : s6.U = [] := by rw [Qs6.2.1, U0]
  refine T_k F H (.int .i64 0) ?_
  clear F; intro a F
  refine wpList_nil ?_
  refine hK4 _ _ ?_
  clear hK4
  try clear K4
  refine C_seqK (fun K7 hK7 => ?_)
  refine C_region ?_
  refine T_k F H (pt xb 0) ?_
  clear F; intro a F
  refine T_new F H kr (fun ad => sc ad 0 1 1) (ce (sl (ints .u8 [98]) []) 5) (fun w => R_buildS (len := 1) rfl Try.underlying30 ((sl (ints .u8 [98]) [])) kr w) ?_
  clear F H; intro aq8 a v F H
  replace H : Hp [] w (s6.blks xb ++ ((bk aq8 (sl (ints .u8 [98]) []) 5) :: ((bk aq5 (sl (ints .u8 [97]) []) 5) :: []))) v := H.perm List.perm_middle.symm
  refine T_call F H kr 20 #[pt xb 0, nw 2, nw 6, sc aq8 0 1 1] (.int .i64 85) (fun w => kr) (hold_ahead xb 2 6 _ (by decide) (by decide) (by decide) _) ?_
  clear F H; intro a v F H
  refine T_k F H (.int .i64 85) ?_
  clear F; intro a F
  refine wpList_nil ?_
  refine hK7 _ _ ?_
  clear hK7
  try clear K7
  refine C_seqK (fun K9 hK9 => ?_)
  refine C_region ?_
  refine T_k F H (pt xb 0) ?_
  clear F; intro a F
  refine T_new F H kr (fun ad => sc ad 0 1 1) (ce (sl (ints .u8 [99]) []) 5) (fun w => R_buildS (len := 1) rfl Try.underlying30 ((sl (ints .u8 [99]) [])) kr w) ?_
  clear F H; intro aq10 a v F H
  replace H : Hp [] w (s6.blks xb ++ ((bk aq10 (sl (ints .u8 [99]) []) 5) :: ((bk aq8 (sl (ints .u8 [98]) []) 5) :: ((bk aq5 (sl (ints .u8 [97]) []) 5) :: [])))) v := H.perm List.perm_middle.symm
  refine T_call F H kr 20 #[pt xb 0, nw 2, nw 2, sc aq10 0 1 1] (.int .i64 84) (fun w => kr) (hold_stale xb 2 2 _ (by decide) _) ?_
  clear F H; intro a v F H
  refine T_k F H (.int .i64 84) ?_
  clear F; intro a F
  refine wpList_nil ?_
  refine hK9 _ _ ?_
  clear hK9
  try clear K9
  refine C_seqK (fun K11 hK11 => ?_)
  refine C_region ?_
  refine T_k F H (pt xb 0) ?_
  clear F; intro a F
  refine T_callX (α := InS) F H kr 21 #[pt xb 0, nw 2] (fun rX => .tuple #[.slice none 0 0, .bool false]) (fun rX => rX.blks xb ++ ((bk aq10 (sl (ints .u8 [99]) []) 5) :: ((bk aq8 (sl (ints .u8 [98]) []) 5) :: ((bk aq5 (sl (ints .u8 [97]) []) 5) :: [])))) (fun rX => rX.ok ∧ rX.U = s6.U ∧ rX.hD = s6.hD.filter fun d => decide (2 < d.1)) (fun w => kr) (fun w H => turn_S0 Qs6.1 H 2 (by rw [Ds6]; decide)) ?_
  clear F H; intro s12 a v Qs12 F H
  have Ds12 : s12.hD = [(3, [97])] := by rw [Qs12.2.2, Ds6]; rfl
  have Us12 : s12.U = [] := by rw [Qs12.2.1, Us6]
  refine T_k F H (.tuple #[.slice none 0 0, .bool false]) ?_
  clear F; intro a F
  refine T_k F H (.slice none 0 0) ?_
  clear F; intro a F
  refine T_k F H (.bool false) ?_
  clear F; intro a F
  refine T_k F H (.slice none 0 0) ?_
  clear F; intro a F
  refine T_k F H (.bool false) ?_
  clear F; intro a F
  refine wpList_nil ?_
  refine hK11 _ _ ?_
  clear hK11
  try clear K11
  refine C_seqK (fun K13 hK13 => ?_)
  refine C_region ?_
  refine T_k F H (pt xb 0) ?_
  clear F; intro a F
  refine T_callX (α := InS × Cl) F H kr 21 #[pt xb 0, nw 3] (fun rX => .tuple #[rX.2.v, .bool true]) (fun rX => rX.1.blks xb ++ (rX.2.blks ++ ((bk aq10 (sl (ints .u8 [99]) []) 5) :: ((bk aq8 (sl (ints .u8 [98]) []) 5) :: ((bk aq5 (sl (ints .u8 [97]) []) 5) :: []))))) (fun rX => rX.1.ok ∧ rX.2.ok ∧ rX.2.l = [97] ∧ rX.1.U = s12.U ∧ rX.1.hD = s12.hD.filter fun d => decide (3 < d.1)) (fun w => kr) (fun w H => turn_S1 Qs12.1 H 3 [97] (by rw [Ds12]; decide)) ?_
  clear F H; intro s14 a v Qs14 F H
  obtain ⟨s14, cs14⟩ := s14
  dsimp only at Qs14
  obtain ⟨hs14, hcs14, hls14, hus14, hms14⟩ := Qs14
  replace F : Fm 104 [] [(35, .tuple #[cs14.v, .bool true]), (34, pt xb 0), (6, .bool false), (5, .slice none 0 0), (32, .bool false), (31, .slice none 0 0), (28, .tuple #[.slice none 0 0, .bool false]), (30, .tuple #[.slice none 0 0, .bool false]), (29, pt xb 0), (4, .int .i64 84), (27, .int .i64 84), (26, sc aq10 0 1 1), (25, pt xb 0), (3, .int .i64 85), (24, .int .i64 85), (23, sc aq8 0 1 1), (22, pt xb 0), (2, .int .i64 0), (21, .int .i64 0), (20, sc aq5 0 1 1), (19, pt xb 0), (1, pt xb 0), (18, pt xb 0), (17, .agg #[.map none, .slice none 0 0]), (0, .bool false)] a := F.weak _ (subL_of kr)
  replace H : Hp [] w (s14.blks xb ++ (cs14.blks ++ ((bk aq10 (sl (ints .u8 [99]) []) 5) :: ((bk aq8 (sl (ints .u8 [98]) []) 5) :: ((bk aq5 (sl (ints .u8 [97]) []) 5) :: []))))) v := H
  have Ds14 : s14.hD = [] := by rw [hms14, Ds12]; rfl
  have Us14 : s14.U = [] := by rw [hus14, Us12]
  refine T_k F H (.tuple #[cs14.v, .bool true]) ?_
  clear F; intro a F
  refine T_k F H (cs14.v) ?_
  clear F; intro a F
  refine T_k F H (.bool true) ?_
  clear F; intro a F
  refine T_k F H (cs14.v) ?_
  clear F; intro a F
  refine T_k F H (.bool true) ?_
  clear F; intro a F
  refine wpList_nil ?_
  refine hK13 _ _ ?_
  clear hK13
  try clear K13
  refine C_seqK (fun K15 hK15 => ?_)
  refine C_region ?_
  refine T_k F H (pt xb 0) ?_
  clear F; intro a F
  refine T_callX (α := InS) F H kr 21 #[pt xb 0, nw 3] (fun rX => .tuple #[.slice none 0 0, .bool false]) (fun rX => rX.blks xb ++ (cs14.blks ++ ((bk aq10 (sl (ints .u8 [99]) []) 5) :: ((bk aq8 (sl (ints .u8 [98]) []) 5) :: ((bk aq5 (sl (ints .u8 [97]) []) 5) :: []))))) (fun rX => rX.ok ∧ rX.U = s14.U ∧ rX.hD = s14.hD.filter fun d => decide (3 < d.1)) (fun w => kr) (fun w H => turn_S0 hs14 H 3 (by rw [Ds14]; decide)) ?_
  clear F H; intro s16 a v Qs16 F H
  have Ds16 : s16.hD = [] := by rw [Qs16.2.2, Ds14]; rfl
  have Us16 : s16.U = [] := by rw [Qs16.2.1, Us14]
  refine T_k F H (.tuple #[.slice none 0 0, .bool false]) ?_
  clear F; intro a F
  refine T_k F H (.slice none 0 0) ?_
  clear F; intro a F
  refine T_k F H (.bool false) ?_
  clear F; intro a F
  refine T_k F H (.slice none 0 0) ?_
  clear F; intro a F
  refine T_k F H (.bool false) ?_
  clear F; intro a F
  refine wpList_nil ?_
  refine hK15 _ _ ?_
  clear hK15
  try clear K15
  refine C_seqK (fun K17 hK17 => ?_)
  refine C_region ?_
  refine T_k F H (pt xb 0) ?_
  clear F; intro a F
  refine T_new F H kr (fun ad => sc ad 0 1 1) (ce (sl (ints .u8 [97]) []) 5) (fun w => R_buildS (len := 1) rfl Try.underlying30 ((sl (ints .u8 [97]) [])) kr w) ?_
  clear F H; intro aq18 a v F H
  replace H : Hp [] w (s16.blks xb ++ ((bk aq18 (sl (ints .u8 [97]) []) 5) :: (cs14.blks ++ ((bk aq10 (sl (ints .u8 [99]) []) 5) :: ((bk aq8 (sl (ints .u8 [98]) []) 5) :: ((bk aq5 (sl (ints .u8 [97]) []) 5) :: [])))))) v := H.perm List.perm_middle.symm
  refine T_callX (α := InS) F H kr 10 #[pt xb 0, sc aq18 0 1 1] (fun rX => .int .i64 (if s16.U.length = 8 then 63 else 0)) (fun rX => rX.blks xb ++ ((bk aq18 (sl (ints .u8 [97]) []) 5) :: (cs14.blks ++ ((bk aq10 (sl (ints .u8 [99]) []) 5) :: ((bk aq8 (sl (ints .u8 [98]) []) 5) :: ((bk aq5 (sl (ints .u8 [97]) []) 5) :: [])))))) (fun rX => rX.ok ∧ rX.U = (if s16.U.length = 8 then s16.U else s16.U ++ [[97]]) ∧ rX.M = s16.M) (fun w => kr) (fun w H => put_S Qs16.1 H ⟨some ⟨aq18, 0, none⟩, 1, [97]⟩ (ix_rdK H (p := (bk aq18 (sl (ints .u8 [97]) []) 5)) (List.mem_cons_self ..) rfl (Nat.le_refl _) (by show 1 ≤ 140737488355328; omega))) ?_
  clear F H; intro s19 a v Qs19 F H
  have Us19 : s19.U = [[97]] := by rw [Qs19.2.1, Us16]; rfl
  refine wpList_nil ?_
  refine hK17 _ _ ?_
  clear hK17
  try clear K17
  refine C_seqK (fun K20 hK20 => ?_)
  refine C_region ?_
  refine T_k F H (pt xb 0) ?_
  clear F; intro a F
  refine T_new F H kr (fun ad => sc ad 0 1 1) (ce (sl (ints .u8 [98]) []) 5) (fun w => R_buildS (len := 1) rfl Try.underlying30 ((sl (ints .u8 [98]) [])) kr w) ?_
  clear F H; intro aq21 a v F H
  replace H : Hp [] w (s19.blks xb ++ ((bk aq21 (sl (ints .u8 [98]) []) 5) :: ((bk aq18 (sl (ints .u8 [97]) []) 5) :: (cs14.blks ++ ((bk aq10 (sl (ints .u8 [99]) []) 5) :: ((bk aq8 (sl (ints .u8 [98]) []) 5) :: ((bk aq5 (sl (ints .u8 [97]) []) 5) :: []))))))) v := H.perm List.perm_middle.symm
  refine T_callX (α := InS) F H kr 10 #[pt xb 0, sc aq21 0 1 1] (fun rX => .int .i64 (if s19.U.length = 8 then 63 else 0)) (fun rX => rX.blks xb ++ ((bk aq21 (sl (ints .u8 [98]) []) 5) :: ((bk aq18 (sl (ints .u8 [97]) []) 5) :: (cs14.blks ++ ((bk aq10 (sl (ints .u8 [99]) []) 5) :: ((bk aq8 (sl (ints .u8 [98]) []) 5) :: ((bk aq5 (sl (ints .u8 [97]) []) 5) :: []))))))) (fun rX => rX.ok ∧ rX.U = (if s19.U.length = 8 then s19.U else s19.U ++ [[98]]) ∧ rX.M = s19.M) (fun w => kr) (fun w H => put_S Qs19.1 H ⟨some ⟨aq21, 0, none⟩, 1, [98]⟩ (ix_rdK H (p := (bk aq21 (sl (ints .u8 [98]) []) 5)) (List.mem_cons_self ..) rfl (Nat.le_refl _) (by show 1 ≤ 140737488355328; omega))) ?_
  clear F H; intro s22 a v Qs22 F H
  have Us22 : s22.U = [[97], [98]] := by rw [Qs22.2.1, Us19]; rfl
  refine wpList_nil ?_
  refine hK20 _ _ ?_
  clear hK20
  try clear K20
  refine C_seqK (fun K23 hK23 => ?_)
  refine C_region ?_
  refine T_k F H (pt xb 0) ?_
  clear F; intro a F
  refine T_callX (α := InS × Cl) F H kr 11 #[pt xb 0] (fun rX => .tuple #[rX.2.v, .int .i64 0]) (fun rX => rX.1.blks xb ++ (rX.2.blks ++ ((bk aq21 (sl (ints .u8 [98]) []) 5) :: ((bk aq18 (sl (ints .u8 [97]) []) 5) :: (cs14.blks ++ ((bk aq10 (sl (ints .u8 [99]) []) 5) :: ((bk aq8 (sl (ints .u8 [98]) []) 5) :: ((bk aq5 (sl (ints .u8 [97]) []) 5) :: [])))))))) (fun rX => rX.1.ok ∧ rX.2.ok ∧ rX.2.l = [97] ∧ rX.1.U = [[98]] ∧ rX.1.M = s22.M) (fun w => kr) (fun w H => fetch_S Qs22.1 Us22 H) ?_
  clear F H; intro s24 a v Qs24 F H
  obtain ⟨s24, cs24⟩ := s24
  dsimp only at Qs24
  obtain ⟨hs24, hcs24, hls24, hus24, hms24⟩ := Qs24
  replace F : Fm 104 [] [(51, .tuple #[cs24.v, .int .i64 0]), (50, pt xb 0), (48, .int .i64 (if s19.U.length = 8 then 63 else 0)), (47, sc aq21 0 1 1), (46, pt xb 0), (45, .int .i64 (if s16.U.length = 8 then 63 else 0)), (44, sc aq18 0 1 1), (43, pt xb 0), (10, .bool false), (9, .slice none 0 0), (42, .bool false), (41, .slice none 0 0), (38, .tuple #[.slice none 0 0, .bool false]), (40, .tuple #[.slice none 0 0, .bool false]), (39, pt xb 0), (8, .bool true), (7, cs14.v), (37, .bool true), (36, cs14.v), (33, .tuple #[cs14.v, .bool true]), (35, .tuple #[cs14.v, .bool true]), (34, pt xb 0), (6, .bool false), (5, .slice none 0 0), (32, .bool false), (31, .slice none 0 0), (28, .tuple #[.slice none 0 0, .bool false]), (30, .tuple #[.slice none 0 0, .bool false]), (29, pt xb 0), (4, .int .i64 84), (27, .int .i64 84), (26, sc aq10 0 1 1), (25, pt xb 0), (3, .int .i64 85), (24, .int .i64 85), (23, sc aq8 0 1 1), (22, pt xb 0), (2, .int .i64 0), (21, .int .i64 0), (20, sc aq5 0 1 1), (19, pt xb 0), (1, pt xb 0), (18, pt xb 0), (17, .agg #[.map none, .slice none 0 0]), (0, .bool false)] a := F.weak _ (subL_of kr)
  replace H : Hp [] w (s24.blks xb ++ (cs24.blks ++ ((bk aq21 (sl (ints .u8 [98]) []) 5) :: ((bk aq18 (sl (ints .u8 [97]) []) 5) :: (cs14.blks ++ ((bk aq10 (sl (ints .u8 [99]) []) 5) :: ((bk aq8 (sl (ints .u8 [98]) []) 5) :: ((bk aq5 (sl (ints .u8 [97]) []) 5) :: [])))))))) v := H
  have Us24 := hus24
  refine T_k F H (.tuple #[cs24.v, .int .i64 0]) ?_
  clear F; intro a F
  refine T_k F H (cs24.v) ?_
  clear F; intro a F
  refine T_k F H (.int .i64 0) ?_
  clear F; intro a F
  refine T_k F H (cs24.v) ?_
  clear F; intro a F
  refine T_k F H (.int .i64 0) ?_
  clear F; intro a F
  refine wpList_nil ?_
  refine hK23 _ _ ?_
  clear hK23
  try clear K23
  refine C_seqK (fun K25 hK25 => ?_)
  refine C_region ?_
  refine T_k F H (pt xb 0) ?_
  clear F; intro a F
  refine T_callX (α := InS × Cl) F H kr 11 #[pt xb 0] (fun rX => .tuple #[rX.2.v, .int .i64 0]) (fun rX => rX.1.blks xb ++ (rX.2.blks ++ (cs24.blks ++ ((bk aq21 (sl (ints .u8 [98]) []) 5) :: ((bk aq18 (sl (ints .u8 [97]) []) 5) :: (cs14.blks ++ ((bk aq10 (sl (ints .u8 [99]) []) 5) :: ((bk aq8 (sl (ints .u8 [98]) []) 5) :: ((bk aq5 (sl (ints .u8 [97]) []) 5) :: []))))))))) (fun rX => rX.1.ok ∧ rX.2.ok ∧ rX.2.l = [98] ∧ rX.1.U = [] ∧ rX.1.M = s24.M) (fun w => kr) (fun w H => fetch_S hs24 Us24 H) ?_
  clear F H; intro s26 a v Qs26 F H
  obtain ⟨s26, cs26⟩ := s26
  dsimp only at Qs26
  obtain ⟨hs26, hcs26, hls26, hus26, hms26⟩ := Qs26
  replace F : Fm 104 [] [(56, .tuple #[cs26.v, .int .i64 0]), (55, pt xb 0), (12, .int .i64 0), (11, cs24.v), (53, .int .i64 0), (52, cs24.v), (49, .tuple #[cs24.v, .int .i64 0]), (51, .tuple #[cs24.v, .int .i64 0]), (50, pt xb 0), (48, .int .i64 (if s19.U.length = 8 then 63 else 0)), (47, sc aq21 0 1 1), (46, pt xb 0), (45, .int .i64 (if s16.U.length = 8 then 63 else 0)), (44, sc aq18 0 1 1), (43, pt xb 0), (10, .bool false), (9, .slice none 0 0), (42, .bool false), (41, .slice none 0 0), (38, .tuple #[.slice none 0 0, .bool false]), (40, .tuple #[.slice none 0 0, .bool false]), (39, pt xb 0), (8, .bool true), (7, cs14.v), (37, .bool true), (36, cs14.v), (33, .tuple #[cs14.v, .bool true]), (35, .tuple #[cs14.v, .bool true]), (34, pt xb 0), (6, .bool false), (5, .slice none 0 0), (32, .bool false), (31, .slice none 0 0), (28, .tuple #[.slice none 0 0, .bool false]), (30, .tuple #[.slice none 0 0, .bool false]), (29, pt xb 0), (4, .int .i64 84), (27, .int .i64 84), (26, sc aq10 0 1 1), (25, pt xb 0), (3, .int .i64 85), (24, .int .i64 85), (23, sc aq8 0 1 1), (22, pt xb 0), (2, .int .i64 0), (21, .int .i64 0), (20, sc aq5 0 1 1), (19, pt xb 0), (1, pt xb 0), (18, pt xb 0), (17, .agg #[.map none, .slice none 0 0]), (0, .bool false)] a := F.weak _ (subL_of kr)
  replace H : Hp [] w (s26.blks xb ++ (cs26.blks ++ (cs24.blks ++ ((bk aq21 (sl (ints .u8 [98]) []) 5) :: ((bk aq18 (sl (ints .u8 [97]) []) 5) :: (cs14.blks ++ ((bk aq10 (sl (ints .u8 [99]) []) 5) :: ((bk aq8 (sl (ints .u8 [98]) []) 5) :: ((bk aq5 (sl (ints .u8 [97]) []) 5) :: []))))))))) v := H
  have Us26 := hus26
  refine T_k F H (.tuple #[cs26.v, .int .i64 0]) ?_
  clear F; intro a F
  refine T_k F H (cs26.v) ?_
  clear F; intro a F
  refine T_k F H (.int .i64 0) ?_
  clear F; intro a F
  refine T_k F H (cs26.v) ?_
  clear F; intro a F
  refine T_k F H (.int .i64 0) ?_
  clear F; intro a F
  refine wpList_nil ?_
  refine hK25 _ _ ?_
  clear hK25
  try clear K25
  refine C_seqK (fun K27 hK27 => ?_)
  refine C_region ?_
  refine T_k F H (pt xb 0) ?_
  clear F; intro a F
  refine T_call F H kr 11 #[pt xb 0] (.tuple #[.slice none 0 0, .int .i64 90]) (fun w => kr) (fetch_S0 hs26 Us26 H) ?_
  clear F H; intro a v F H
  refine T_k F H (.tuple #[.slice none 0 0, .int .i64 90]) ?_
  clear F; intro a F
  refine T_k F H (.slice none 0 0) ?_
  clear F; intro a F
  refine T_k F H (.int .i64 90) ?_
  clear F; intro a F
  refine T_k F H (.slice none 0 0) ?_
  clear F; intro a F
  refine T_k F H (.int .i64 90) ?_
  clear F; intro a F
  refine wpList_nil ?_
  refine hK27 _ _ ?_
  clear hK27
  try clear K27
  refine C_seqK (fun K28 hK28 => ?_)
  refine C_region ?_
  refine T_k F H (.int .i64 0) ?_
  clear F; intro a F
  refine T_k F H (.bool true) ?_
  clear F; intro a F
  refine T_k F H (.bool true) ?_
  clear F; intro a F
  refine T_k F H (.int .i64 85) ?_
  clear F; intro a F
  refine T_k F H (.bool true) ?_
  clear F; intro a F
  refine T_k F H (.bool true) ?_
  clear F; intro a F
  refine T_k F H (.bool true) ?_
  clear F; intro a F
  refine T_k F H (.int .i64 84) ?_
  clear F; intro a F
  refine T_k F H (.bool true) ?_
  clear F; intro a F
  refine T_k F H (.bool true) ?_
  clear F; intro a F
  refine T_k F H (.bool true) ?_
  clear F; intro a F
  refine T_k F H (.bool false) ?_
  clear F; intro a F
  refine T_k F H (.bool true) ?_
  clear F; intro a F
  refine T_k F H (.bool true) ?_
  clear F; intro a F
  refine T_k F H (.bool true) ?_
  clear F; intro a F
  refine T_k F H (.bool true) ?_
  clear F; intro a F
  refine T_k F H (.bool true) ?_
  clear F; intro a F
  refine T_k F H (.bool true) ?_
  clear F; intro a F
  refine T_k F H (cs14.v) ?_
  clear F; intro a F
  refine T_new F H kr (fun ad => sc ad 0 1 1) (ce (sl (ints .u8 [97]) []) 5) (fun w => R_buildS (len := 1) rfl Try.underlying30 ((sl (ints .u8 [97]) [])) kr w) ?_
  clear F H; intro aq29 a v F H
  refine T_call F H kr 12 #[cs14.v, sc aq29 0 1 1] (.bool true) (fun w => kr) (same_true cs14.sv ⟨some ⟨aq29, 0, none⟩, 1, [97]⟩ (Cl.sv_v hcs14) rfl (cs14.rd hcs14 (fun p hp => H.held p (by simp only [List.mem_append, List.mem_cons, hp, true_or, or_true]))) (Sv.rd_own (l := [97]) (by show 1 ≤ 140737488355328; omega) (H.at_ (k := 0) rfl)) (by rw [Cl.sv_l, hls14])) ?_
  clear F H; intro a v F H
  refine T_k F H (.bool true) ?_
  clear F; intro a F
  refine T_k F H (.bool true) ?_
  clear F; intro a F
  refine T_k F H (.bool false) ?_
  clear F; intro a F
  refine T_k F H (.bool true) ?_
  clear F; intro a F
  refine T_k F H (.bool true) ?_
  clear F; intro a F
  refine T_k F H (.bool true) ?_
  clear F; intro a F
  refine T_k F H (cs24.v) ?_
  clear F; intro a F
  refine T_new F H kr (fun ad => sc ad 0 1 1) (ce (sl (ints .u8 [97]) []) 5) (fun w => R_buildS (len := 1) rfl Try.underlying30 ((sl (ints .u8 [97]) [])) kr w) ?_
  clear F H; intro aq30 a v F H
  refine T_call F H kr 12 #[cs24.v, sc aq30 0 1 1] (.bool true) (fun w => kr) (same_true cs24.sv ⟨some ⟨aq30, 0, none⟩, 1, [97]⟩ (Cl.sv_v hcs24) rfl (cs24.rd hcs24 (fun p hp => H.held p (by simp only [List.mem_append, List.mem_cons, hp, true_or, or_true]))) (Sv.rd_own (l := [97]) (by show 1 ≤ 140737488355328; omega) (H.at_ (k := 0) rfl)) (by rw [Cl.sv_l, hls24])) ?_
  clear F H; intro a v F H
  refine T_k F H (.bool true) ?_
  clear F; intro a F
  refine T_k F H (.bool true) ?_
  clear F; intro a F
  refine T_k F H (cs26.v) ?_
  clear F; intro a F
  refine T_new F H kr (fun ad => sc ad 0 1 1) (ce (sl (ints .u8 [98]) []) 5) (fun w => R_buildS (len := 1) rfl Try.underlying30 ((sl (ints .u8 [98]) [])) kr w) ?_
  clear F H; intro aq31 a v F H
  refine T_call F H kr 12 #[cs26.v, sc aq31 0 1 1] (.bool true) (fun w => kr) (same_true cs26.sv ⟨some ⟨aq31, 0, none⟩, 1, [98]⟩ (Cl.sv_v hcs26) rfl (cs26.rd hcs26 (fun p hp => H.held p (by simp only [List.mem_append, List.mem_cons, hp, true_or, or_true]))) (Sv.rd_own (l := [98]) (by show 1 ≤ 140737488355328; omega) (H.at_ (k := 0) rfl)) (by rw [Cl.sv_l, hls26])) ?_
  clear F H; intro a v F H
  refine T_k F H (.bool true) ?_
  clear F; intro a F
  refine T_k F H (.bool true) ?_
  clear F; intro a F
  refine T_k F H (.int .i64 90) ?_
  clear F; intro a F
  refine T_k F H (.bool true) ?_
  clear F; intro a F
  refine T_k F H (.bool true) ?_
  clear F; intro a F
  refine T_k F H (.bool true) ?_
  clear F; intro a F
  refine wpList_nil ?_
  refine hK28 _ _ ?_
  clear hK28
  try clear K28
  refine wp_ret ?_
  exact C_ret F H (rs := [.tmp 0]) rfl (vs := [.bool true]) (.tmp rfl .nil) (.bool true) rfl ⟨rfl, H.kept⟩
end Go.Proofs.Ytlnlppmhiobgjaa
