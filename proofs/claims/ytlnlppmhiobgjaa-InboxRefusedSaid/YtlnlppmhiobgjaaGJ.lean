/- Walks: law21's awake. -/
import Derived.Test.YtlnlppmhiobgjaaGI
set_option linter.unusedVariables false
set_option linter.unusedSimpArgs false
namespace Go.Proofs.Ytlnlppmhiobgjaa
open Go Go.RowKit
theorem s0_ok : (⟨true, 0, 0, [], []⟩ : BxS).ok := ⟨fun _ => rfl, (fun h => by cases h), (fun e he => by cases he), Nat.zero_le _⟩
theorem rdK_in {X : List Nat} {w0 w : World} {A B : List Blk} (H : Hp X w0 (A ++ B) w) {p : Blk} (hp : p ∈ B) {l : List Nat} {r : List Value} {c : Nat} (hob : p.ob = .cells (sl (oct l) r) 5 (0, 0)) (hc : l.length ≤ c) (hb : l.length ≤ 140737488355328) : Sv.RdK (A.map (·.ad)) w ⟨some ⟨p.ad, 0, none⟩, c, l⟩ := fun w' k => by
  have hg : w.heap[p.ad]? = some (.cells (sl (oct l) r) 5 (0, 0)) := by rw [← hob]; exact H.held p (List.mem_append_right _ hp)
  have hx : p.ad ∉ A.map (·.ad) := fun h => by
    obtain ⟨q, hq, e⟩ := List.mem_map.1 h
    exact (List.pairwise_append.1 H.far).2.2 q hq p hp e
  exact ⟨hc, (fun h => by cases h), hb, fun _ => ⟨p.ad, 0, rfl, RdB.all ((k.block _ (heap_in hg) hx).trans hg)⟩⟩
theorem rdK_hd {X : List Nat} {w0 w : World} {xb : Nat} {s : BxS} {R : List Blk} (H : Hp X w0 (s.blks xb ++ R) w) {p : Blk} (hp : p ∈ R) {l : List Nat} {r : List Value} {c : Nat} (hob : p.ob = .cells (sl (oct l) r) 5 (0, 0)) (hc : l.length ≤ c) (hb : l.length ≤ 140737488355328) : Sv.RdK ((s.hd xb).map (·.ad)) w ⟨some ⟨p.ad, 0, none⟩, c, l⟩ := by
  unfold BxS.blks at H
  rw [List.append_assoc] at H
  exact rdK_in H (List.mem_append_right _ hp) hob hc hb
theorem lists_true (x y : Lv) {u v : Value} {w : World} (hu : x.v = u) (hv : y.v = v) (hx : x.Rd w) (hy : y.Rd w) (h : x.ss.map (·.l) = y.ss.map (·.l)) : Calls Try.prog 14 #[u, v] w fun e w' => e = .returned (.bool true) ∧ Kept [] w w' := by
  subst hu hv
  exact (lists_any x.ad x.c x.ss y.ad y.c y.ss w hx hy).mono fun e w' ⟨h1, h2⟩ => ⟨by rw [h1, decide_eq_true h], h2⟩
theorem one_rd {w : World} {b1 b2 : Nat} {l : List Nat} {r : List Value} (hb : l.length ≤ 140737488355328) (h1 : w.heap[b1]? = some (.cells (sl (oct l) r) 5 (0, 0))) (h2 : w.heap[b2]? = some (.cells #[.slice (some ⟨b1, 0, none⟩) l.length l.length] 30 (0, 0))) : Lv.Rd w ⟨some ⟨b2, 0, none⟩, 1, [⟨some ⟨b1, 0, none⟩, l.length, l⟩]⟩ :=
  ⟨Nat.le_refl _, (by show 1 < 1000000; omega), fun _ => ⟨b2, 0, rfl, RdB.of h2 (fun j u hj => by rw [Nat.zero_add]; exact (List.getElem?_toArray ..).trans hj)⟩, fun x hx => by
    rw [List.mem_singleton.1 hx]
    exact ⟨Nat.le_refl _, (fun h => by cases h), hb, fun _ => ⟨b1, 0, rfl, RdB.all h1⟩⟩⟩

set_option maxRecDepth 100000 in
set_option maxHeartbeats 4000000 in
theorem awake21_any (w : World) : Calls Try.prog 15 #[] w fun e w' => e = .returned (.bool true) ∧ Kept [] w w' := by
  have hD0 := (rfl : (⟨true, 0, 0, [], []⟩ : BxS).D = [])
  have D0 := hD0
  refine C_enter Try.func15 rfl 61 Try.ntmps15 (Nat.le_of_ble_eq_true rfl) (fun a F => ?_)
  have H := Hp.start [] w
  replace F : Fm 61 [] [] a := F.weak _ (subL_of kr)
  refine C_seqK (fun K1 hK1 => ?_)
  refine C_region ?_
  refine T_k F H (.bool false) ?_
  clear F; intro a F
  refine wpList_nil ?_
  refine hK1 _ _ ?_
  clear hK1
  try clear K1
  refine C_seqK (fun K2 hK2 => ?_)
  refine C_region ?_
  refine T_k F H (.agg #[.slice none 0 0]) ?_
  clear F; intro a F
  refine T_new F H kr (fun ad => pt ad 0) (ce #[.slice none 0 0] 47) (fun w => kr) ?_
  clear F H; intro aq3 a v F H
  refine T_k F H (pt aq3 0) ?_
  clear F; intro a F
  refine wpList_nil ?_
  replace H : Hp [] w [bk aq3 #[.slice none 0 0] 47] v := H.pick [0] kr _ rfl
  generalize aq3 = xb at F H
  replace H : Hp [] w ((⟨true, 0, 0, [], []⟩ : BxS).blks xb ++ []) v := H
  refine hK2 _ _ ?_
  clear hK2
  try clear K2
  refine C_seqK (fun K4 hK4 => ?_)
  refine C_region ?_
  refine T_k F H (pt xb 0) ?_
  clear F; intro a F
  refine T_new F H kr (fun ad => sc ad 0 1 1) (ce (sl (ints .u8 [97]) []) 5) (fun w => R_buildS (len := 1) rfl Try.underlying30 ((sl (ints .u8 [97]) [])) kr w) ?_
  clear F H; intro aq5 a v F H
  replace H : Hp [] w ((⟨true, 0, 0, [], []⟩ : BxS).blks xb ++ ((bk aq5 (sl (ints .u8 [97]) []) 5) :: [])) v := H.perm List.perm_middle.symm
  refine T_callX (α := BxS) F H kr 16 #[pt xb 0, nw 1, sc aq5 0 1 1, nu 0] (fun rX => .int .i64 (addC (⟨true, 0, 0, [], []⟩ : BxS).D 1)) (fun rX => rX.blks xb ++ ((bk aq5 (sl (ints .u8 [97]) []) 5) :: [])) (fun rX => rX.ok ∧ rX.D = addD (⟨true, 0, 0, [], []⟩ : BxS).D 1 0 [97]) (fun w => kr) (fun w H => (add_S s0_ok H 1 0 ⟨some ⟨aq5, 0, none⟩, 1, [97]⟩ (rdK_hd H (p := (bk aq5 (sl (ints .u8 [97]) []) 5)) (List.mem_cons_self ..) rfl (Nat.le_refl _) (by show 1 ≤ 140737488355328; omega))).mono fun _ _ ⟨s', q1, q2, q3, q4⟩ => ⟨s', q1, ⟨q2, q3⟩, q4⟩) ?_
  clear F H; intro s6 a v Qs6 F H
  have Ds6 : s6.D = [(1, 0, [97])] := by rw [Qs6.2, D0]; rfl
  refine wpList_nil ?_
  refine hK4 _ _ ?_
  clear hK4
  try clear K4
  refine C_seqK (fun K7 hK7 => ?_)
  refine C_region ?_
  refine T_k F H (pt xb 0) ?_
  clear F; intro a F
  refine T_new F H kr (fun ad => sc ad 0 1 1) (ce (sl (ints .u8 [98]) []) 5) (fun w => R_buildS (len := 1) rfl Try.underlying30 ((sl (ints .u8 [98]) [])) kr w) ?_
  clear F H; intro aq8 a v F H
  replace H : Hp [] w (s6.blks xb ++ ((bk aq8 (sl (ints .u8 [98]) []) 5) :: ((bk aq5 (sl (ints .u8 [97]) []) 5) :: []))) v := H.perm List.perm_middle.symm
  refine T_callX (α := BxS) F H kr 16 #[pt xb 0, nw 2, sc aq8 0 1 1, nu 3] (fun rX => .int .i64 (addC s6.D 2)) (fun rX => rX.blks xb ++ ((bk aq8 (sl (ints .u8 [98]) []) 5) :: ((bk aq5 (sl (ints .u8 [97]) []) 5) :: []))) (fun rX => rX.ok ∧ rX.D = addD s6.D 2 3 [98]) (fun w => kr) (fun w H => (add_S Qs6.1 H 2 3 ⟨some ⟨aq8, 0, none⟩, 1, [98]⟩ (rdK_hd H (p := (bk aq8 (sl (ints .u8 [98]) []) 5)) (List.mem_cons_self ..) rfl (Nat.le_refl _) (by show 1 ≤ 140737488355328; omega))).mono fun _ _ ⟨s', q1, q2, q3, q4⟩ => ⟨s', q1, ⟨q2, q3⟩, q4⟩) ?_
  clear F H; intro s9 a v Qs9 F H
  have Ds9 : s9.D = [(1, 0, [97]), (2, 3, [98])] := by rw [Qs9.2, Ds6]; rfl
  refine wpList_nil ?_
  refine hK7 _ _ ?_
  clear hK7
  try clear K7
  refine C_seqK (fun K10 hK10 => ?_)
  refine C_region ?_
  refine T_k F H (pt xb 0) ?_
  clear F; intro a F
  refine T_callX (α := BxS × Ls) F H kr 17 #[pt xb 0, nu 0] (fun rX => rX.2.v) (fun rX => rX.1.blks xb ++ (rX.2.blks ++ ((bk aq8 (sl (ints .u8 [98]) []) 5) :: ((bk aq5 (sl (ints .u8 [97]) []) 5) :: [])))) (fun rX => rX.1.ok ∧ rX.2.ok ∧ rX.1.D = s9.D.map (dueDU (0)) ∧ rX.2.ls = dueL (0) s9.D ∧ rX.2.cs.length ≤ 4) (fun w => kr) (fun w H => due_S Qs9.1 H (0) (by omega)) ?_
  clear F H; intro s11 a v Qs11 F H
  obtain ⟨s11, os11⟩ := s11
  dsimp only at Qs11
  obtain ⟨hs11, hos11, hds11, hls11, hcs11⟩ := Qs11
  replace F : Fm 61 [] [(19, (os11.v)), (18, pt xb 0), (17, .int .i64 (addC s6.D 2)), (16, sc aq8 0 1 1), (15, pt xb 0), (14, .int .i64 (addC (⟨true, 0, 0, [], []⟩ : BxS).D 1)), (13, sc aq5 0 1 1), (12, pt xb 0), (1, pt xb 0), (11, pt xb 0), (10, .agg #[.slice none 0 0]), (0, .bool false)] a := F.weak _ (subL_of kr)
  replace H : Hp [] w (s11.blks xb ++ (os11.blks ++ ((bk aq8 (sl (ints .u8 [98]) []) 5) :: ((bk aq5 (sl (ints .u8 [97]) []) 5) :: [])))) v := H
  have Ds11 : s11.D = [(1, 5, [97]), (2, 3, [98])] := by rw [hds11, Ds9]; rfl
  have Es11 : os11.ls = [[97]] := by rw [hls11, Ds9]; rfl
  refine T_k F H ((os11.v)) ?_
  clear F; intro a F
  refine wpList_nil ?_
  refine hK10 _ _ ?_
  clear hK10
  try clear K10
  refine C_seqK (fun K12 hK12 => ?_)
  refine C_region ?_
  refine T_k F H (pt xb 0) ?_
  clear F; intro a F
  refine T_callX (α := BxS × Ls) F H kr 17 #[pt xb 0, nu 4] (fun rX => rX.2.v) (fun rX => rX.1.blks xb ++ (rX.2.blks ++ (os11.blks ++ ((bk aq8 (sl (ints .u8 [98]) []) 5) :: ((bk aq5 (sl (ints .u8 [97]) []) 5) :: []))))) (fun rX => rX.1.ok ∧ rX.2.ok ∧ rX.1.D = s11.D.map (dueDU (4)) ∧ rX.2.ls = dueL (4) s11.D ∧ rX.2.cs.length ≤ 4) (fun w => kr) (fun w H => due_S hs11 H (4) (by omega)) ?_
  clear F H; intro s13 a v Qs13 F H
  obtain ⟨s13, os13⟩ := s13
  dsimp only at Qs13
  obtain ⟨hs13, hos13, hds13, hls13, hcs13⟩ := Qs13
  replace F : Fm 61 [] [(21, (os13.v)), (20, pt xb 0), (2, (os11.v)), (19, (os11.v)), (18, pt xb 0), (17, .int .i64 (addC s6.D 2)), (16, sc aq8 0 1 1), (15, pt xb 0), (14, .int .i64 (addC (⟨true, 0, 0, [], []⟩ : BxS).D 1)), (13, sc aq5 0 1 1), (12, pt xb 0), (1, pt xb 0), (11, pt xb 0), (10, .agg #[.slice none 0 0]), (0, .bool false)] a := F.weak _ (subL_of kr)
  replace H : Hp [] w (s13.blks xb ++ (os13.blks ++ (os11.blks ++ ((bk aq8 (sl (ints .u8 [98]) []) 5) :: ((bk aq5 (sl (ints .u8 [97]) []) 5) :: []))))) v := H
  have Ds13 : s13.D = [(1, 5, [97]), (2, 9, [98])] := by rw [hds13, Ds11]; rfl
  have Es13 : os13.ls = [[98]] := by rw [hls13, Ds11]; rfl
  refine T_k F H ((os13.v)) ?_
  clear F; intro a F
  refine wpList_nil ?_
  refine hK12 _ _ ?_
  clear hK12
  try clear K12
  refine C_seqK (fun K14 hK14 => ?_)
  refine C_region ?_
  refine T_k F H (pt xb 0) ?_
  clear F; intro a F
  refine T_callX (α := BxS × Ls) F H kr 17 #[pt xb 0, nu 5] (fun rX => rX.2.v) (fun rX => rX.1.blks xb ++ (rX.2.blks ++ (os13.blks ++ (os11.blks ++ ((bk aq8 (sl (ints .u8 [98]) []) 5) :: ((bk aq5 (sl (ints .u8 [97]) []) 5) :: [])))))) (fun rX => rX.1.ok ∧ rX.2.ok ∧ rX.1.D = s13.D.map (dueDU (5)) ∧ rX.2.ls = dueL (5) s13.D ∧ rX.2.cs.length ≤ 4) (fun w => kr) (fun w H => due_S hs13 H (5) (by omega)) ?_
  clear F H; intro s15 a v Qs15 F H
  obtain ⟨s15, os15⟩ := s15
  dsimp only at Qs15
  obtain ⟨hs15, hos15, hds15, hls15, hcs15⟩ := Qs15
  replace F : Fm 61 [] [(23, (os15.v)), (22, pt xb 0), (3, (os13.v)), (21, (os13.v)), (20, pt xb 0), (2, (os11.v)), (19, (os11.v)), (18, pt xb 0), (17, .int .i64 (addC s6.D 2)), (16, sc aq8 0 1 1), (15, pt xb 0), (14, .int .i64 (addC (⟨true, 0, 0, [], []⟩ : BxS).D 1)), (13, sc aq5 0 1 1), (12, pt xb 0), (1, pt xb 0), (11, pt xb 0), (10, .agg #[.slice none 0 0]), (0, .bool false)] a := F.weak _ (subL_of kr)
  replace H : Hp [] w (s15.blks xb ++ (os15.blks ++ (os13.blks ++ (os11.blks ++ ((bk aq8 (sl (ints .u8 [98]) []) 5) :: ((bk aq5 (sl (ints .u8 [97]) []) 5) :: [])))))) v := H
  have Ds15 : s15.D = [(1, 10, [97]), (2, 9, [98])] := by rw [hds15, Ds13]; rfl
  have Es15 : os15.ls = [[97]] := by rw [hls15, Ds13]; rfl
  refine T_k F H ((os15.v)) ?_
  clear F; intro a F
  refine wpList_nil ?_
  refine hK14 _ _ ?_
  clear hK14
  try clear K14
  refine C_seqK (fun K16 hK16 => ?_)
  refine C_region ?_
  refine T_k F H (pt xb 0) ?_
  clear F; intro a F
  refine T_callX (α := BxS) F H kr 18 #[pt xb 0, nw 1] (fun rX => ni (s15.D.length - (gotD 1 s15.D).length)) (fun rX => rX.blks xb ++ (os15.blks ++ (os13.blks ++ (os11.blks ++ ((bk aq8 (sl (ints .u8 [98]) []) 5) :: ((bk aq5 (sl (ints .u8 [97]) []) 5) :: [])))))) (fun rX => rX.ok ∧ rX.D = gotD 1 s15.D) (fun w => kr) (fun w H => (got_S hs15 H 1).mono fun _ _ ⟨s', q1, q2, q3, q4⟩ => ⟨s', q1, ⟨q2, q3⟩, q4⟩) ?_
  clear F H; intro s17 a v Qs17 F H
  have Ds17 : s17.D = [(2, 9, [98])] := by rw [Qs17.2, Ds15]; rfl
  have Ns17 : s15.D.length - (gotD 1 s15.D).length = 1 := by rw [Ds15]; rfl
  rw [Ns17] at F
  refine T_k F H (ni 1) ?_
  clear F; intro a F
  refine wpList_nil ?_
  refine hK16 _ _ ?_
  clear hK16
  try clear K16
  refine C_seqK (fun K18 hK18 => ?_)
  refine C_region ?_
  refine T_k F H (pt xb 0) ?_
  clear F; intro a F
  refine T_callX (α := BxS × Ls) F H kr 17 #[pt xb 0, nu 100] (fun rX => rX.2.v) (fun rX => rX.1.blks xb ++ (rX.2.blks ++ (os15.blks ++ (os13.blks ++ (os11.blks ++ ((bk aq8 (sl (ints .u8 [98]) []) 5) :: ((bk aq5 (sl (ints .u8 [97]) []) 5) :: []))))))) (fun rX => rX.1.ok ∧ rX.2.ok ∧ rX.1.D = s17.D.map (dueDU (100)) ∧ rX.2.ls = dueL (100) s17.D ∧ rX.2.cs.length ≤ 4) (fun w => kr) (fun w H => due_S Qs17.1 H (100) (by omega)) ?_
  clear F H; intro s19 a v Qs19 F H
  obtain ⟨s19, os19⟩ := s19
  dsimp only at Qs19
  obtain ⟨hs19, hos19, hds19, hls19, hcs19⟩ := Qs19
  replace F : Fm 61 [] [(27, (os19.v)), (26, pt xb 0), (5, ni 1), (25, ni 1), (24, pt xb 0), (4, (os15.v)), (23, (os15.v)), (22, pt xb 0), (3, (os13.v)), (21, (os13.v)), (20, pt xb 0), (2, (os11.v)), (19, (os11.v)), (18, pt xb 0), (17, .int .i64 (addC s6.D 2)), (16, sc aq8 0 1 1), (15, pt xb 0), (14, .int .i64 (addC (⟨true, 0, 0, [], []⟩ : BxS).D 1)), (13, sc aq5 0 1 1), (12, pt xb 0), (1, pt xb 0), (11, pt xb 0), (10, .agg #[.slice none 0 0]), (0, .bool false)] a := F.weak _ (subL_of kr)
  replace H : Hp [] w (s19.blks xb ++ (os19.blks ++ (os15.blks ++ (os13.blks ++ (os11.blks ++ ((bk aq8 (sl (ints .u8 [98]) []) 5) :: ((bk aq5 (sl (ints .u8 [97]) []) 5) :: []))))))) v := H
  have Ds19 : s19.D = [(2, 105, [98])] := by rw [hds19, Ds17]; rfl
  have Es19 : os19.ls = [[98]] := by rw [hls19, Ds17]; rfl
  refine T_k F H ((os19.v)) ?_
  clear F; intro a F
  refine wpList_nil ?_
  refine hK18 _ _ ?_
  clear hK18
  try clear K18
  refine C_seqK (fun K20 hK20 => ?_)
  refine C_region ?_
  refine T_k F H (pt xb 0) ?_
  clear F; intro a F
  refine T_new F H kr (fun ad => sc ad 0 1 1) (ce (sl (ints .u8 [99]) []) 5) (fun w => R_buildS (len := 1) rfl Try.underlying30 ((sl (ints .u8 [99]) [])) kr w) ?_
  clear F H; intro aq21 a v F H
  replace H : Hp [] w (s19.blks xb ++ ((bk aq21 (sl (ints .u8 [99]) []) 5) :: (os19.blks ++ (os15.blks ++ (os13.blks ++ (os11.blks ++ ((bk aq8 (sl (ints .u8 [98]) []) 5) :: ((bk aq5 (sl (ints .u8 [97]) []) 5) :: [])))))))) v := H.perm List.perm_middle.symm
  refine T_callX (α := BxS) F H kr 16 #[pt xb 0, nw 4, sc aq21 0 1 1, nu 0] (fun rX => .int .i64 (addC s19.D 4)) (fun rX => rX.blks xb ++ ((bk aq21 (sl (ints .u8 [99]) []) 5) :: (os19.blks ++ (os15.blks ++ (os13.blks ++ (os11.blks ++ ((bk aq8 (sl (ints .u8 [98]) []) 5) :: ((bk aq5 (sl (ints .u8 [97]) []) 5) :: [])))))))) (fun rX => rX.ok ∧ rX.D = addD s19.D 4 0 [99]) (fun w => kr) (fun w H => (add_S hs19 H 4 0 ⟨some ⟨aq21, 0, none⟩, 1, [99]⟩ (rdK_hd H (p := (bk aq21 (sl (ints .u8 [99]) []) 5)) (List.mem_cons_self ..) rfl (Nat.le_refl _) (by show 1 ≤ 140737488355328; omega))).mono fun _ _ ⟨s', q1, q2, q3, q4⟩ => ⟨s', q1, ⟨q2, q3⟩, q4⟩) ?_
  clear F H; intro s22 a v Qs22 F H
  have Ds22 : s22.D = [(2, 105, [98])] := by rw [Qs22.2, Ds19]; rfl
  have hC : addC s19.D 4 = 1 := by rw [Ds19]; rfl
  rw [hC] at F
  refine T_k F H (.int .i64 1) ?_
  clear F; intro a F
  refine wpList_nil ?_
  refine hK20 _ _ ?_
  clear hK20
  try clear K20
  refine C_seqK (fun K23 hK23 => ?_)
  refine C_region ?_
  refine T_new F H kr (fun ad => sc ad 0 1 1) (ce (sl (ints .u8 [97]) []) 5) (fun w => R_buildS (len := 1) rfl Try.underlying30 ((sl (ints .u8 [97]) [])) kr w) ?_
  clear F H; intro aq24 a v F H
  refine T_new F H kr (fun ad => sc ad 0 1 1) (ce #[sc aq24 0 1 1] 30) (fun w => R_buildS (len := 1) rfl Try.underlying26 (#[sc aq24 0 1 1]) kr w) ?_
  clear F H; intro aq25 a v F H
  refine T_k F H (sc aq25 0 1 1) ?_
  clear F; intro a F
  refine wpList_nil ?_
  refine hK23 _ _ ?_
  clear hK23
  try clear K23
  refine C_seqK (fun K26 hK26 => ?_)
  refine C_region ?_
  refine T_new F H kr (fun ad => sc ad 0 1 1) (ce (sl (ints .u8 [98]) []) 5) (fun w => R_buildS (len := 1) rfl Try.underlying30 ((sl (ints .u8 [98]) [])) kr w) ?_
  clear F H; intro aq27 a v F H
  refine T_new F H kr (fun ad => sc ad 0 1 1) (ce #[sc aq27 0 1 1] 30) (fun w => R_buildS (len := 1) rfl Try.underlying26 (#[sc aq27 0 1 1]) kr w) ?_
  clear F H; intro aq28 a v F H
  refine T_k F H (sc aq28 0 1 1) ?_
  clear F; intro a F
  refine wpList_nil ?_
  refine hK26 _ _ ?_
  clear hK26
  try clear K26
  refine C_seqK (fun K29 hK29 => ?_)
  refine C_region ?_
  refine T_k F H ((os11.v)) ?_
  clear F; intro a F
  refine T_k F H (sc aq25 0 1 1) ?_
  clear F; intro a F
  refine T_call F H kr 14 #[(os11.v), sc aq25 0 1 1] (.bool true) (fun w => kr) (lists_true os11.lv ⟨some ⟨aq25, 0, none⟩, 1, [⟨some ⟨aq24, 0, none⟩, 1, [97]⟩]⟩ (Ls.lv_v hos11) rfl (Ls.rd hos11 (fun p hp => H.held p (by simp only [List.mem_append, List.mem_cons, hp, true_or, or_true])) (by omega)) (one_rd (l := [97]) (by show 1 ≤ 140737488355328; omega) (H.at_ (k := 3) rfl) (H.at_ (k := 2) rfl)) (by rw [Ls.lv_ls, Es11]; rfl)) ?_
  clear F H; intro a v F H
  refine T_k F H (.bool true) ?_
  clear F; intro a F
  refine T_k F H ((os13.v)) ?_
  clear F; intro a F
  refine T_k F H (sc aq28 0 1 1) ?_
  clear F; intro a F
  refine T_call F H kr 14 #[(os13.v), sc aq28 0 1 1] (.bool true) (fun w => kr) (lists_true os13.lv ⟨some ⟨aq28, 0, none⟩, 1, [⟨some ⟨aq27, 0, none⟩, 1, [98]⟩]⟩ (Ls.lv_v hos13) rfl (Ls.rd hos13 (fun p hp => H.held p (by simp only [List.mem_append, List.mem_cons, hp, true_or, or_true])) (by omega)) (one_rd (l := [98]) (by show 1 ≤ 140737488355328; omega) (H.at_ (k := 1) rfl) (H.at_ (k := 0) rfl)) (by rw [Ls.lv_ls, Es13]; rfl)) ?_
  clear F H; intro a v F H
  refine T_k F H (.bool true) ?_
  clear F; intro a F
  refine T_k F H (.bool true) ?_
  clear F; intro a F
  refine T_k F H ((os15.v)) ?_
  clear F; intro a F
  refine T_k F H (sc aq25 0 1 1) ?_
  clear F; intro a F
  refine T_call F H kr 14 #[(os15.v), sc aq25 0 1 1] (.bool true) (fun w => kr) (lists_true os15.lv ⟨some ⟨aq25, 0, none⟩, 1, [⟨some ⟨aq24, 0, none⟩, 1, [97]⟩]⟩ (Ls.lv_v hos15) rfl (Ls.rd hos15 (fun p hp => H.held p (by simp only [List.mem_append, List.mem_cons, hp, true_or, or_true])) (by omega)) (one_rd (l := [97]) (by show 1 ≤ 140737488355328; omega) (H.at_ (k := 3) rfl) (H.at_ (k := 2) rfl)) (by rw [Ls.lv_ls, Es15]; rfl)) ?_
  clear F H; intro a v F H
  refine T_k F H (.bool true) ?_
  clear F; intro a F
  refine T_k F H (.bool true) ?_
  clear F; intro a F
  refine T_k F H (ni 1) ?_
  clear F; intro a F
  refine T_k F H (.bool true) ?_
  clear F; intro a F
  refine T_k F H (.bool true) ?_
  clear F; intro a F
  refine T_k F H (.bool true) ?_
  clear F; intro a F
  refine T_k F H ((os19.v)) ?_
  clear F; intro a F
  refine T_k F H (sc aq28 0 1 1) ?_
  clear F; intro a F
  refine T_call F H kr 14 #[(os19.v), sc aq28 0 1 1] (.bool true) (fun w => kr) (lists_true os19.lv ⟨some ⟨aq28, 0, none⟩, 1, [⟨some ⟨aq27, 0, none⟩, 1, [98]⟩]⟩ (Ls.lv_v hos19) rfl (Ls.rd hos19 (fun p hp => H.held p (by simp only [List.mem_append, List.mem_cons, hp, true_or, or_true])) (by omega)) (one_rd (l := [98]) (by show 1 ≤ 140737488355328; omega) (H.at_ (k := 1) rfl) (H.at_ (k := 0) rfl)) (by rw [Ls.lv_ls, Es19]; rfl)) ?_
  clear F H; intro a v F H
  refine T_k F H (.bool true) ?_
  clear F; intro a F
  refine T_k F H (.bool true) ?_
  clear F; intro a F
  refine T_k F H (.int .i64 1) ?_
  clear F; intro a F
  refine T_k F H (.bool true) ?_
  clear F; intro a F
  refine T_k F H (.bool true) ?_
  clear F; intro a F
  refine T_k F H (.bool true) ?_
  clear F; intro a F
  refine wpList_nil ?_
  refine hK29 _ _ ?_
  clear hK29
  try clear K29
  refine wp_ret ?_
  exact C_ret F H (rs := [.tmp 0]) rfl (vs := [.bool true]) (.tmp rfl .nil) (.bool true) rfl ⟨rfl, H.kept⟩
end Go.Proofs.Ytlnlppmhiobgjaa
