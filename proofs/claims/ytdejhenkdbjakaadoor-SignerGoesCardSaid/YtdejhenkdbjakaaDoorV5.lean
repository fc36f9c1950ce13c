/- Walks: the reference's keys of keys. -/
import Derived.Test.YtdejhenkdbjakaaDoorV4
import Derived.Deep.AppendSrc
set_option linter.unusedVariables false
set_option linter.unusedSimpArgs false
namespace Go.Proofs.YtdejhenkdbjakaaDoor
open Go Go.RowKit
theorem oct3 (a b c : List Nat) : oct a ++ oct b ++ oct c = oct (a ++ (b ++ c)) := by simp [ints]
theorem run_appStr {P : Program} {o : Oper} {V : List (Nat × Value)} {w : World} {t tx : TypeId} {s x : Operand} (ho : o.op = .call { callee := .builtin .append, args := #[s, x], argTypes := #[t, tx] }) (ht : P.underlying t = some (.slice 5)) (htx : P.underlying tx = some .string) (hi0 : infoB P 5 1 1 = true) {g m0 cap : Nat} {xs : List Nat} (hs : evV V s = .slice (some ⟨g, 0, none⟩) m0 cap) (hm0 : xs.length = m0) (hc : cap = m0) (hg : w.heap[g]? = some (.cells (sl (oct xs) []) 5 (0, 0)))
    {sb : ByteArray} (hx : evV V x = .string sb) {lb : List Nat} (hsb : byteCells sb = oct lb) (hl : 1 ≤ lb.length) (hmax : m0 + lb.length < 1099511627776) :
    ∃ (r : SlR) (w' : World), (execOp (evV V) o).run P w = .ok (.value (.slice (some ⟨r.g, 0, none⟩) (m0 + lb.length) r.cap)) w' ∧ Own (oct (xs ++ lb)) r.rest (m0 + lb.length) r.cap 1 ∧ w.heap.size ≤ r.g ∧ w'.heap[r.g]? = some (.cells (sl (oct (xs ++ lb)) r.rest) 5 (0, 0)) ∧ Kept [] w w' := by
  obtain ⟨i, z, hi, hz, hsz, hb, hzs, _⟩ := infoB_spec hi0
  have hsn : sb.size = lb.length := by rw [← byteCells_length, hsb, ints_len]
  subst hm0 hc
  have hsrc := Src.ofString (P := P) w htx sb
  rw [hsn, hsb] at hsrc
  have hnew := run_append_grow_src (P := P) w t tx o.type 5 i z ht hi hz (some ⟨g, 0, none⟩) xs.length xs.length (oct xs) (run_firstCells_some (P := P) w.drew i.size xs.length ⟨g, 0, none⟩ xs.length xs.length (oct xs) (by rw [hsz, ints_len, Nat.mul_one]) (fun j u hj => by
    have hadd : (⟨g, 0, none⟩ : Addr).add j = ⟨g, 0 + j, none⟩ := by unfold Addr.add; split <;> simp_all
    rw [hadd, cell_of_row w.drew g (0 + j) _ 5 (0, 0) (show w.drew.heap[g]? = _ from hg), Nat.zero_add]
    exact sl_get hj)) (.string sb) lb.length (oct lb) (by rw [hsz]; exact hsrc) (by omega) (by omega) (by
      rw [hb]; exact growslice_fits (by omega) (by omega))
  have hge := grownCap_ge w (xs.length + lb.length) xs.length 5
  have hcm : grownCap w (xs.length + lb.length) xs.length 5 ≤ maxLen := grownCap_le_maxLen w (xs.length + lb.length) xs.length 5 (by simp only [maxLen]; omega)
  refine ⟨⟨w.heap.size, grownCap w (xs.length + lb.length) xs.length 5, (Builtin.zeroCells z.cells (grownCap w (xs.length + lb.length) xs.length 5 - (xs.length + lb.length))).toList, 0⟩, _, exec_append ho hs hx hnew, ⟨by rw [ints_len, List.length_append, Nat.mul_one], ?_, hge, hcm⟩, Nat.le_refl _, ?_, ?_⟩
  · have e1 : (oct (xs ++ lb)).length = xs.length + lb.length := by rw [ints_len, List.length_append]
    have e2 : ∀ a : Array Value, a.toList.length = a.size := fun _ => Array.length_toList
    dsimp only
    rw [e1, e2, size_zeroCells, hzs]
    omega
  · refine (heap_alloc_new w.drew _).trans ?_
    congr 2
    unfold sl
    rw [show oct (xs ++ lb) = oct xs ++ oct lb from ints_app .u8 xs lb]
    simp
  · exact (Kept.drew w).trans (by simp) (Kept.alloc _ _)
theorem lmac_blk (gl n kg kcap bg bm bcap : Nat) (kf : Nat → Nat) (hk : ∀ i, i < 32 → kf i < 256) (krest brest : List Value) (bl : List Nat) (hkc : 32 ≤ kcap) (hbn : bl.length = bm) (hbc : bm ≤ bcap) (hbs : bm < 549755813888) (hbb : ∀ x ∈ bl, x < 256) (w : World) (hkg : w.heap[kg]? = some (.cells (sl (oct (kl kf)) krest) 5 (0, 0))) (hbg : w.heap[bg]? = some (.cells (sl (oct bl) brest) 5 (0, 0))) (hm : w.heap[gl]? = some (.cells (lgr n) 32 (0, 0))) : Calls Tryd.prog 72 #[.pointer (some ⟨gl, 0, none⟩), .slice (some ⟨kg, 0, none⟩) 32 kcap, .slice (some ⟨bg, 0, none⟩) bm bcap] w fun e w' => ∃ r : SlR, e = .returned (.agg (arrF .u8 32 (macK (kl kf) bl))) ∧ True ∧ Kept [gl] w w' ∧ w'.heap[gl]? = some (.cells (lgr r.n) 32 (0, 0)) :=
  lmac_any gl n ⟨some ⟨kg, 0, none⟩, 32, kcap, kl kf⟩ (kl_lt hk) (kl_len kf) (by show 32 ≤ 64; omega) ⟨some ⟨bg, 0, none⟩, bm, bcap, bl⟩ hbb hbn hbs w (RdS.all hkg hkc) (fun ad n c e h => by
    cases e
    exact ne_of_ty hkg hm rfl (List.mem_singleton.1 h)) (RdS.all hbg hbc) (fun ad n c e h => by
    cases e
    exact ne_of_ty hbg hm rfl (List.mem_singleton.1 h)) hm

set_option maxRecDepth 100000 in
set_option maxHeartbeats 4000000 in
theorem linfo_any (sb : ByteArray) (lb : List Nat) (hsb : byteCells sb = oct lb) (hl0 : 1 ≤ lb.length) (hl1 : lb.length ≤ 255) (ps : List SlP) (h1 : 4 * ps.length + (catP ps).length < 1073741824) (ad cp : Nat) (arr : Array Value) (ty : Nat) (ha : ∀ k, k < ps.length → arr[k]? = some (ps.getD k p0).v) (w : World) (hrds : AllR w ps) (hblk : w.heap[ad]? = some (.cells arr ty (0, 0))) : Calls Tryd.prog 92 #[.string sb, .slice (some ⟨ad, 0, none⟩) ps.length cp] w (MadeS [] 5 1 (infoL lb (ps.map SlP.l)).length (oct (infoL lb (ps.map SlP.l))) w) := by
  have hsz : sb.size = lb.length := by rw [← byteCells_length, hsb, ints_len]
  have hcl := fun k (h : k ≤ ps.length) => catK_len ps h
  have hil : ∀ k, (infK lb ps k).length = 1 + lb.length + 4 * k + (catK ps k).length := infK_len lb ps
  have hnn := fun k (h : k < ps.length) => (hrds.at_ h).2
  have hall : infK lb ps ps.length = infoL lb (ps.map SlP.l) := infK_all lb hnn
  refine C_enter Tryd.func92 rfl 40 Tryd.ntmps92 (Nat.le_of_ble_eq_true rfl) (fun a F => ?_)
  have H := Hp.start1 [] hblk
  replace F : Fm 40 [] [(0, .string sb), (1, sc ad 0 ps.length cp)] a := F.weak _ (subL_of kr)
  refine C_seqK (fun K1 hK1 => ?_)
  refine C_region ?_
  refine T_k F H (.slice none 0 0) ?_
  clear F; intro a F
  refine wpList_nil ?_
  refine hK1 _ _ ?_
  clear hK1
  try clear K1
  refine C_seqK (fun K2 hK2 => ?_)
  refine C_seqK (fun K3 hK3 => ?_)
  refine C_region ?_
  refine T_k F H (.string sb) ?_
  clear F; intro a F
  refine T_val F H kr (ni lb.length) (fun step_ _ => by rw [← hsz]; kernel_rfl) ?_
  clear F; intro a F
  refine T_val F H kr (.bool false) (fun w _ => R_bin (x := (.tmp 8)) (y := (.const (.int .i64 255))) rfl (k := .i64) (a := ((lb.length : Nat) : Int)) (b := ((255 : Nat) : Int)) kr kr (i_ngtn (by omega)) w) ?_
  clear F; intro a F
  refine wpList_nil ?_
  refine hK3 _ _ ?_
  clear hK3
  try clear K3
  refine C_if F false rfl rfl ?_
  refine wp_skip ?_
  refine hK2 _ _ ?_
  clear hK2
  try clear K2
  refine C_seqK (fun K4 hK4 => ?_)
  refine C_region ?_
  refine T_k F H (.string sb) ?_
  clear F; intro a F
  refine T_val F H kr (ni lb.length) (fun step_ _ => by rw [← hsz]; kernel_rfl) ?_
  clear F; intro a F
  refine T_val F H kr (nb lb.length) (fun w _ => R_conv (x := (.tmp 13)) rfl (k0 := .i64) kr kr (k := .i64) (a := ((lb.length : Nat) : Int)) kr (wr8 (a := lb.length) (by omega)) w) ?_
  clear F; intro a F
  refine T_new F H kr (fun ad => sc ad 0 1 1) (ce (sl (ints .u8 [lb.length]) []) 5) (fun w => R_buildS (len := 1) rfl Tryd.underlying54 ((sl (ints .u8 [lb.length]) [])) kr w) ?_
  clear F H; intro aq5 a v F H
  refine T_k F H (.string sb) ?_
  clear F; intro a F
  refine T_newG F H kr (fun r => sc r.g 0 (1 + lb.length) r.cap) (fun r => ce (sl (oct ([lb.length] ++ lb)) r.rest) 5) (fun r => Own (oct ([lb.length] ++ lb)) r.rest (1 + lb.length) r.cap 1) (fun w hl => run_appStr (s := (.tmp 15)) (x := (.tmp 16)) rfl Tryd.underlying54 Tryd.underlying9 kr (m0 := 1) (cap := 1) (xs := [lb.length]) kr rfl rfl (hl.at_ (k := 0) rfl) (sb := sb) kr hsb hl0 (by omega)) ?_
  clear F H; intro rq6 a v Qrq6 F H
  refine T_k F H (sc rq6.g 0 (1 + lb.length) rq6.cap) ?_
  clear F; intro a F
  refine wpList_nil ?_
  refine hK4 _ _ ?_
  clear hK4
  try clear K4
  refine C_seqK (fun K7 hK7 => ?_)
  refine C_seqK (fun K8 hK8 => ?_)
  refine C_region ?_
  refine T_k F H (ni 0) ?_
  clear F; intro a F
  refine wpList_nil ?_
  replace F : Fm 40 [] [(6, ni 0), (5, sc rq6.g 0 (1 + lb.length) rq6.cap), (1, sc ad 0 ps.length cp)] a := F.weak _ (subL_of kr)
  replace H : Hp [] w [bk rq6.g (sl (oct ([lb.length] ++ lb)) rq6.rest) 5, br ad arr ty] v := H.pick [0, 2] kr _ rfl
  have hc9 : [lb.length] ++ lb = infK lb ps 0 := rfl
  rw [hc9] at H Qrq6
  rw [show 1 + lb.length = (infK lb ps 0).length from by rw [hil]; simp [catK]] at F Qrq6
  refine hK8 _ _ ?_
  clear hK8
  try clear K8
  refine wp_block ?_
  refine C_loop (fun m a v => ∃ (k : Nat) (r : SlR), k + m = ps.length ∧ Own (oct (infK lb ps k)) r.rest (infK lb ps k).length r.cap 1 ∧ Fm 40 [] [(6, ni k), (5, sc r.g 0 (infK lb ps k).length r.cap), (1, sc ad 0 ps.length cp)] a ∧ Hp [] w [bk r.g (sl (oct (infK lb ps k)) r.rest) 5, br ad arr ty] v) (ps.length) ⟨0, rq6, Nat.zero_add _, Qrq6, F, H⟩ ?_
  clear F H
  intro m a v ⟨k, r, hk, hO, F, H⟩
  rcases m with _ | m
  rotate_left
  · skip
    have hc1 := hcl (k + 1) (by omega)
    have hnl := hnn k (by omega)
    have hc2 : (catK ps (k + 1)).length = (catK ps k).length + (ps.getD k p0).n := by rw [catK, List.length_append, hnl]
    have hil1 := hil k
    have hil2 := hil (k + 1)
    refine C_seqK (fun K9 hK9 => ?_)
    refine C_seqK (fun K10 hK10 => ?_)
    refine C_region ?_
    refine T_k F H (ni k) ?_
    clear F; intro a F
    refine T_k F H (sc ad 0 ps.length cp) ?_
    clear F; intro a F
    refine T_k F H (ni ps.length) ?_
    clear F; intro a F
    refine T_val F H kr (.bool true) (fun w _ => R_bin (x := (.tmp 18)) (y := (.tmp 20)) rfl (k := .i64) (a := ((k : Nat) : Int)) (b := ((ps.length : Nat) : Int)) kr kr (i_lt (by omega)) w) ?_
    clear F; intro a F
    refine wpList_nil ?_
    refine hK10 _ _ ?_
    clear hK10
    try clear K10
    refine C_if F true rfl rfl ?_
    refine wp_skip ?_
    refine hK9 _ _ ?_
    clear hK9
    try clear K9
    refine C_seqK (fun K11 hK11 => ?_)
    refine wp_block ?_
    refine C_seqK (fun K12 hK12 => ?_)
    refine C_region ?_
    refine T_k F H (sc r.g 0 (infK lb ps k).length r.cap) ?_
    clear F; intro a F
    refine T_k F H (sc ad 0 ps.length cp) ?_
    clear F; intro a F
    refine T_k F H (ni k) ?_
    clear F; intro a F
    refine T_val F H kr (pt ad (0 + (k) * 1)) (fun w _ => R_indexS (k := .i64) (g := ad) (off := 0) (len := ps.length) (cap := cp) (x := (.tmp 25)) (y := (.tmp 26)) rfl Tryd.underlying30 kr (k) kr (by omega) (sz := 1) kr w) ?_
    clear F; intro a F
    refine T_val F H kr (.slice (ps.getD k p0).ad (ps.getD k p0).n (ps.getD k p0).c) (R_cell 1 rfl 54 (.tmp 27) rfl (0 + (k) * 1) kr (.slice (ps.getD k p0).ad (ps.getD k p0).n (ps.getD k p0).c) ((congrArg (fun q => arr[q]?) (show 0 + k * 1 = k by omega)).trans (ha k (by omega))) _ Tryd.underlying54 rfl) ?_
    clear F; intro a F
    refine T_k F H (ni ((ps.getD k p0).n)) ?_
    clear F; intro a F
    refine T_val F H kr (nu ((ps.getD k p0).n)) (fun w _ => R_conv (x := (.tmp 29)) rfl (k0 := .i64) kr kr (k := .i64) (a := (((ps.getD k p0).n : Nat) : Int)) kr (wru64 (a := (ps.getD k p0).n) (by omega)) w) ?_
    clear F; intro a F
    refine T_callX (α := SlR) F H kr 50 #[nu ((ps.getD k p0).n), ni 4] (fun rX => sc rX.g 0 4 rX.cap) (fun rX => [bk rX.g (sl (oct (highL (ps.getD k p0).n 4)) rX.rest) 5, bk r.g (sl (oct (infK lb ps k)) r.rest) 5, br ad arr ty]) (fun rX => Own (oct (highL (ps.getD k p0).n 4)) rX.rest (4) rX.cap 1) (fun w => kr) (fun w H => callsX_newV H (highR_any (ps.getD k p0).n 4 (by omega) (by omega) (by omega) _)) ?_
    clear F H; intro rq13 a v Qrq13 F H
    refine T_app F H kr 54 5 (.tmp 24) (.tmp 31) rfl 1 1 kr kr 1 rfl hO kr (4) (oct (highL (ps.getD k p0).n 4)) (fun w hk hl => (RdS.all (hl.at_ (k := 0) rfl) (Own.le Qrq13))) (by rw [ints_len]; first | rfl | simp [highL_len, hb_len]) (ints_one _ _) (by simp only [maxLen]; omega) (by omega) _ rfl ?_
    clear F H; intro rq14 a v Qrq14 F H
    refine T_k F H (sc rq14.g 0 ((infK lb ps k).length + 4) rq14.cap) ?_
    clear F; intro a F
    refine wpList_nil ?_
    refine hK12 _ _ ?_
    clear hK12
    try clear K12
    refine C_region ?_
    refine T_k F H (sc rq14.g 0 ((infK lb ps k).length + 4) rq14.cap) ?_
    clear F; intro a F
    refine T_k F H (sc ad 0 ps.length cp) ?_
    clear F; intro a F
    refine T_k F H (ni k) ?_
    clear F; intro a F
    refine T_val F H kr (pt ad (0 + (k) * 1)) (fun w _ => R_indexS (k := .i64) (g := ad) (off := 0) (len := ps.length) (cap := cp) (x := (.tmp 34)) (y := (.tmp 35)) rfl Tryd.underlying30 kr (k) kr (by omega) (sz := 1) kr w) ?_
    clear F; intro a F
    refine T_val F H kr (.slice (ps.getD k p0).ad (ps.getD k p0).n (ps.getD k p0).c) (R_cell 2 rfl 54 (.tmp 36) rfl (0 + (k) * 1) kr (.slice (ps.getD k p0).ad (ps.getD k p0).n (ps.getD k p0).c) ((congrArg (fun q => arr[q]?) (show 0 + k * 1 = k by omega)).trans (ha k (by omega))) _ Tryd.underlying54 rfl) ?_
    clear F; intro a F
    refine T_app F H kr 54 5 (.tmp 33) (.tmp 37) rfl 1 1 kr kr 0 rfl Qrq14 kr ((ps.getD k p0).n) (oct ((ps.getD k p0).l)) (fun w hk hl => ((hrds.at_ (by omega)).1.kept hk (fun _ _ _ _ => List.not_mem_nil))) (by rw [ints_len, Nat.mul_one]; exact hnn k (by omega)) (ints_one _ _) (by simp only [maxLen]; omega) (by omega) _ rfl ?_
    clear F H; intro rq15 a v Qrq15 F H
    refine T_k F H (sc rq15.g 0 (((infK lb ps k).length + 4) + (ps.getD k p0).n) rq15.cap) ?_
    clear F; intro a F
    refine wpList_nil ?_
    have hc9 : ((oct (infK lb ps k)) ++ (oct (highL (ps.getD k p0).n 4))) ++ (oct ((ps.getD k p0).l)) = oct (infK lb ps (k + 1)) := oct3 _ _ _
    rw [hc9] at H Qrq15
    have hln : (((infK lb ps k).length + 4) + (ps.getD k p0).n) = (infK lb ps (k + 1)).length := by omega
    rw [hln] at F Qrq15
    replace F : Fm 40 [] [(5, sc rq15.g 0 (infK lb ps (k + 1)).length rq15.cap), (6, ni k), (1, sc ad 0 ps.length cp)] a := F.weak _ (subL_of kr)
    replace H : Hp [] w [bk rq15.g (sl (oct (infK lb ps (k + 1))) rq15.rest) 5, br ad arr ty] v := H.pick [0, 2] kr _ rfl
    refine hK11 _ _ ?_
    clear hK11
    try clear K11
    refine C_region ?_
    refine T_k F H (ni k) ?_
    clear F; intro a F
    refine T_val F H kr (ni (k + 1)) (fun w _ => R_bin (x := (.tmp 22)) (y := (.const (.int .i64 1))) rfl (k := .i64) (a := ((k : Nat) : Int)) (b := ((1 : Nat) : Int)) kr kr (i_addn64 (a := k) (b := 1) (by omega)) w) ?_
    clear F; intro a F
    refine T_k F H (ni (k + 1)) ?_
    clear F; intro a F
    refine wpList_nil ?_
    replace F : Fm 40 [] [(6, ni (k + 1)), (5, sc rq15.g 0 (infK lb ps (k + 1)).length rq15.cap), (1, sc ad 0 ps.length cp)] a := F.weak _ (subL_of kr)
    replace H : Hp [] w [bk rq15.g (sl (oct (infK lb ps (k + 1))) rq15.rest) 5, br ad arr ty] v := H
    exact ⟨m, Nat.lt_succ_self m, k + 1, rq15, by omega, Qrq15, F, H⟩
  have hkt : k = ps.length := by omega
  rw [hkt] at F H hO
  clear hk
  refine C_seqK (fun K16 hK16 => ?_)
  refine C_seqK (fun K17 hK17 => ?_)
  refine C_region ?_
  refine T_k F H (ni ps.length) ?_
  clear F; intro a F
  refine T_k F H (sc ad 0 ps.length cp) ?_
  clear F; intro a F
  refine T_k F H (ni ps.length) ?_
  clear F; intro a F
  refine T_val F H kr (.bool false) (fun w _ => R_bin (x := (.tmp 18)) (y := (.tmp 20)) rfl (k := .i64) (a := ((ps.length : Nat) : Int)) (b := ((ps.length : Nat) : Int)) kr kr (i_nlt (by omega)) w) ?_
  clear F; intro a F
  refine wpList_nil ?_
  refine hK17 _ _ ?_
  clear hK17
  try clear K17
  refine C_if F false rfl rfl ?_
  refine wp_exit ?_
  refine hK7 _ _ ?_
  clear hK7
  try clear K7
  refine C_seqK (fun K18 hK18 => ?_)
  refine C_region ?_
  refine T_k F H (sc r.g 0 (infK lb ps ps.length).length r.cap) ?_
  clear F; intro a F
  refine T_k F H (sc r.g 0 (infK lb ps ps.length).length r.cap) ?_
  clear F; intro a F
  refine wpList_nil ?_
  refine hK18 _ _ ?_
  clear hK18
  try clear K18
  rw [hall] at F H hO
  replace F : Fm 40 [] [(4, sc r.g 0 (infoL lb (ps.map SlP.l)).length r.cap)] a := F.weak _ (subL_of kr)
  refine wp_ret ?_
  exact C_ret F H (rs := [.tmp 4]) rfl (vs := [sc r.g 0 (infoL lb (ps.map SlP.l)).length r.cap]) (.tmp rfl .nil) (sc r.g 0 (infoL lb (ps.map SlP.l)).length r.cap) rfl (made_ret H (k := 0) rfl hO)

theorem AllR.keptX {w w' : World} {X : List Nat} : ∀ {ps : List SlP}, AllR w ps → Kept X w w' → (∀ p ∈ ps, ∀ ad n c, p.v = .slice (some ad) n c → ad.block ∉ X) → AllR w' ps
  | [], _, _, _ => trivial
  | p :: ps, h, k, hx => ⟨h.1.kept k (hx p (List.mem_cons_self ..)), h.2.1, AllR.keptX h.2.2 k fun q hq => hx q (List.mem_cons_of_mem _ hq)⟩

set_option maxRecDepth 100000 in
set_option maxHeartbeats 4000000 in
theorem lder_any (gl n : Nat) (key : Nat → Nat) (hkey : ∀ i, i < 32 → key i < 256) (sb : ByteArray) (lb : List Nat) (hsb : byteCells sb = oct lb) (hl0 : 1 ≤ lb.length) (hl1 : lb.length ≤ 255) (hlb : ∀ x ∈ lb, x < 256) (ps : List SlP) (h1 : 4 * ps.length + (catP ps).length < 1073741824) (ad cp : Nat) (arr : Array Value) (ty : Nat) (ha : ∀ k, k < ps.length → arr[k]? = some (ps.getD k p0).v) (w : World) (hrds : AllR w ps) (hblk : w.heap[ad]? = some (.cells arr ty (0, 0))) (hpb : ∀ x ∈ catP ps, x < 256) (hrx : ∀ p ∈ ps, ∀ ad n c, p.v = .slice (some ad) n c → ad.block ∉ [gl]) (hna : gl ≠ ad) (hm : w.heap[gl]? = some (.cells (lgr n) 32 (0, 0))) : Calls Tryd.prog 69 #[.pointer (some ⟨gl, 0, none⟩), .agg (arrF .u8 32 key), .string sb, .slice (some ⟨ad, 0, none⟩) ps.length cp] w fun e w' => ∃ r : SlR, e = .returned (.agg (arrF .u8 32 (derK key lb (ps.map SlP.l)))) ∧ True ∧ Kept [gl] w w' ∧ w'.heap[gl]? = some (.cells (lgr r.n) 32 (0, 0)) := by
  have hnn := fun k (h : k < ps.length) => (hrds.at_ h).2
  have hil : (infoL lb (ps.map SlP.l)).length = 1 + lb.length + 4 * ps.length + (catP ps).length := by rw [show infoL lb (ps.map SlP.l) = infK lb ps ps.length from (infK_all lb hnn).symm, infK_len, catK_all]
  have hlt9 : ∀ x ∈ (infoL lb (ps.map SlP.l)), x < 256 := by rw [show infoL lb (ps.map SlP.l) = infK lb ps ps.length from (infK_all lb hnn).symm]; exact infK_lt hlb (by omega) hpb ps.length (Nat.le_refl _)
  obtain ⟨fk, hfk⟩ : ∃ fk, fk = derK key lb (ps.map SlP.l) := ⟨_, rfl⟩
  rw [← hfk]
  have hne : gl ≠ ad := hna
  refine C_enter Tryd.func69 rfl 20 Tryd.ntmps69 (Nat.le_of_ble_eq_true rfl) (fun a F => ?_)
  have H := Hp.startM hm hblk hna
  replace F : Fm 20 [] [(0, pt gl 0), (1, kyV key), (2, .string sb), (3, sc ad 0 ps.length cp)] a := F.weak _ (subL_of kr)
  refine C_seqK (fun K1 hK1 => ?_)
  refine C_region ?_
  refine T_new F H kr (fun ad => pt ad 0) (ce (arrF .u8 32 key) 23) (fun w => kr) ?_
  clear F H; intro aq2 a v F H
  refine T_new F H kr (fun ad => pt ad 0) (ce z8 23) (fun w => kr) ?_
  clear F H; intro aq3 a v F H
  refine wpList_nil ?_
  refine hK1 _ _ ?_
  clear hK1
  try clear K1
  refine C_seqK (fun K4 hK4 => ?_)
  refine C_region ?_
  refine T_k F H (.string sb) ?_
  clear F; intro a F
  refine T_k F H (sc ad 0 ps.length cp) ?_
  clear F; intro a F
  refine T_callX (α := SlR) F H kr 92 #[.string sb, sc ad 0 ps.length cp] (fun rX => sc rX.g 0 (infoL lb (ps.map SlP.l)).length rX.cap) (fun rX => [bk rX.g (sl (oct ((infoL lb (ps.map SlP.l)))) rX.rest) 5, bk aq3 z8 23, bk aq2 (arrF .u8 32 key) 23, bk gl (lgr n) 32, br ad arr ty]) (fun rX => Own (oct ((infoL lb (ps.map SlP.l)))) rX.rest ((infoL lb (ps.map SlP.l)).length) rX.cap 1) (fun w => kr) (fun w H => callsX_newV H (linfo_any sb lb hsb hl0 hl1 ps h1 ad cp arr ty ha _ (hrds.keptX H.kept hrx) (H.at_ (k := 3) rfl))) ?_
  clear F H; intro rq5 a v Qrq5 F H
  refine T_k F H (sc rq5.g 0 (infoL lb (ps.map SlP.l)).length rq5.cap) ?_
  clear F; intro a F
  refine wpList_nil ?_
  refine hK4 _ _ ?_
  clear hK4
  try clear K4
  refine C_seqK (fun K6 hK6 => ?_)
  refine C_region ?_
  refine T_k F H (pt gl 0) ?_
  clear F; intro a F
  refine T_val F H kr (kyV key) (R_load (own := true) (g := aq2) (all := (arrF .u8 32 key)) (t := 23) (fr := (0, 0)) 2 kr 23 (.tmp 5) rfl 0 kr (arrF .u8 32 key) (part_all _) _ Tryd.underlying23 rfl (by rw [arrF_size]; kernel_rfl)) ?_
  clear F; intro a F
  refine T_callX (α := SlR) F H kr 47 #[kyV key] (fun rX => sc rX.g 0 32 rX.cap) (fun rX => [bk rX.g (sl (oct (kl key)) rX.rest) 5, bk rq5.g (sl (oct ((infoL lb (ps.map SlP.l)))) rq5.rest) 5, bk aq3 z8 23, bk aq2 (arrF .u8 32 key) 23, bk gl (lgr n) 32, br ad arr ty]) (fun rX => Own (oct (kl key)) rX.rest (32) rX.cap 1) (fun w => kr) (fun w H => callsX_newV H (bytesR_any key _)) ?_
  clear F H; intro rq7 a v Qrq7 F H
  refine T_k F H (sc rq5.g 0 (infoL lb (ps.map SlP.l)).length rq5.cap) ?_
  clear F; intro a F
  refine T_new F H kr (fun ad => sc ad 0 1 1) (ce (sl (ints .u8 [1]) []) 5) (fun w => R_buildS (len := 1) rfl Tryd.underlying54 ((sl (ints .u8 [1]) [])) kr w) ?_
  clear F H; intro aq8 a v F H
  refine T_app F H kr 54 5 (.tmp 16) (.tmp 17) rfl 1 1 kr kr 2 rfl Qrq5 kr (1) (ints .u8 [1]) (fun w hk hl => (RdS.all (hl.at_ (k := 0) rfl) (Nat.le_refl _))) (by rw [ints_len]; first | rfl | simp [highL_len, hb_len]) (ints_one _ _) (by simp only [maxLen]; omega) (by omega) _ rfl ?_
  clear F H; intro rq9 a v Qrq9 F H
  have hc9 : (oct ((infoL lb (ps.map SlP.l)))) ++ (ints .u8 [1]) = oct ((infoL lb (ps.map SlP.l)) ++ [1]) := (ints_app .u8 _ _).symm
  rw [hc9] at H Qrq9
  refine T_callX (α := SlR) F H kr 72 #[pt gl 0, sc rq7.g 0 32 rq7.cap, sc rq9.g 0 ((infoL lb (ps.map SlP.l)).length + 1) rq9.cap] (fun rX => kyV fk) (fun rX => [bk rq9.g (sl (oct ((infoL lb (ps.map SlP.l)) ++ [1])) rq9.rest) 5, bk aq8 (sl (ints .u8 [1]) []) 5, bk rq7.g (sl (oct (kl key)) rq7.rest) 5, bk aq3 z8 23, bk aq2 (arrF .u8 32 key) 23, bk gl (lgr rX.n) 32, br ad arr ty]) (fun rX => True) (fun w => kr) (fun w H => callsX_putV H (k := 5) rfl ((lmac_blk gl n rq7.g rq7.cap rq9.g (((infoL lb (ps.map SlP.l)).length + 1)) (rq9.cap) key hkey _ _ ((infoL lb (ps.map SlP.l)) ++ [1]) Qrq7.le (by rw [List.length_append]; rfl) Qrq9.le (by omega) (fun x hx => (List.mem_append.1 hx).elim (hlt9 x) (fun h => by simp at h; omega)) _ (H.at_ (k := 2) rfl) (H.at_ (k := 0) rfl) (H.at_ (k := 5) rfl)).mono (fun _ _ ⟨r, q1, q2⟩ => ⟨r, by rw [q1, hfk]; rfl, q2⟩))) ?_
  clear F H; intro rq10 a v Qrq10 F H
  refine T_set F H kr rfl 3 rfl (arrF .u8 32 fk) (S_row 3 rfl 23 (.tmp 8) (.tmp 19) rfl kr (arrF .u8 32 fk) kr (by rw [arrF_size]; kernel_rfl) (by rw [arrF_size]; kernel_rfl) (arrF_one _ _ _)) [bk rq9.g (sl (oct ((infoL lb (ps.map SlP.l)) ++ [1])) rq9.rest) 5, bk aq8 (sl (ints .u8 [1]) []) 5, bk rq7.g (sl (oct (kl key)) rq7.rest) 5, bk aq3 (arrF .u8 32 fk) 23, bk aq2 (arrF .u8 32 key) 23, bk gl (lgr rq10.n) 32, br ad arr ty] rfl ?_
  clear F H; intro a v F H
  refine wpList_nil ?_
  refine hK6 _ _ ?_
  clear hK6
  try clear K6
  refine wp_ret ?_
  exact C_ret F H (rs := [.cell 8 23]) rfl (vs := [kyV fk]) (.row 3 rfl rfl _ Tryd.underlying23 rfl kr .nil) (kyV fk) rfl ⟨⟨0, 0, [], rq10.n⟩, rfl, trivial, H.kept, H.at_ (k := 5) rfl⟩
end Go.Proofs.YtdejhenkdbjakaaDoor
