/- Walks: keyed digests. -/
import Derived.Test.YtdejhenkdbjakaaDoorW6
set_option linter.unusedVariables false
set_option linter.unusedSimpArgs false
namespace Go.Proofs.YtdejhenkdbjakaaDoor
open Go Go.RowKit
theorem msum_to (gm n : Nat) (ps : List SlP) (L : List Nat) (hL : catP ps = L) (hs : 0 < L.length ∧ L.length < 1099511627776 ∧ ps.length < 1000000) (ad cp : Nat) (arr : Array Value) (ty : Nat) (ha : arr = (ps.map SlP.v).toArray) (w : World) (hrd : AllR w ps) (hblk : w.heap[ad]? = some (.cells arr ty (0, 0))) (hb : ∀ x ∈ L, x < 256) (hW : Laid w) (hm : w.heap[gm]? = some (.cells (mtr n) 91 (0, 0))) : Calls Tryd.prog 48 #[.pointer (some ⟨gm, 0, none⟩), .slice (some ⟨ad, 0, none⟩) ps.length cp] w fun e w' => ∃ r : SlR, e = .returned (.agg (arrF .u8 32 (shaK L))) ∧ r.n = n + 1 ∧ Kept [gm] w w' ∧ w'.heap[gm]? = some (.cells (mtr r.n) 91 (0, 0)) := by
  subst hL
  exact msum_any gm n ps hs.1 hs.2.1 hs.2.2 ad cp arr ty (arr_of ps ha) w hrd hblk hb hW hm
theorem Laid.apart {gm n : Nat} {w : World} (hW : Laid w) (hm : w.heap[gm]? = some (.cells (mtr n) 91 (0, 0))) : 0 ∉ [gm] ∧ 1 ∉ [gm] :=
  ⟨(fun h => by have := List.mem_singleton.1 h; subst this; rw [hW.start] at hm; cases hm), (fun h => by have := List.mem_singleton.1 h; subst this; rw [hW.rounds] at hm; cases hm)⟩
def xorZ (l : List Nat) (x k : Nat) : List Nat := (List.range 64).map fun i => if i < k then l.getD i 0 ^^^ x else l.getD i 0
theorem xorZ_len (l : List Nat) (x k : Nat) : (xorZ l x k).length = 64 := by simp [xorZ]
theorem xorZ_get (l : List Nat) (x k : Nat) {i : Nat} (h : i < 64) : (xorZ l x k)[i]? = some (if i < k then l.getD i 0 ^^^ x else l.getD i 0) := by simp [xorZ, h]
theorem xorZ_at (l : List Nat) (x : Nat) {k : Nat} (h : k < 64) : (xorZ l x k)[k]? = some (l.getD k 0) := by rw [xorZ_get l x k h, if_neg (Nat.lt_irrefl _)]
theorem xorZ_set (l : List Nat) (x : Nat) {k : Nat} (h : k < 64) : (xorZ l x k).set k (l.getD k 0 ^^^ x) = xorZ l x (k + 1) := by
  refine List.ext_getElem? fun i => ?_
  rw [List.getElem?_set]
  by_cases e : k = i
  · subst e
    rw [if_pos rfl, if_pos (by rw [xorZ_len]; exact h), xorZ_get l x _ h, if_pos (by omega)]
  · rw [if_neg e]
    rcases Nat.lt_or_ge i 64 with hi | hi
    · rw [xorZ_get l x _ hi, xorZ_get l x _ hi]
      congr 1
      by_cases h1 : i < k
      · rw [if_pos h1, if_pos (by omega)]
      · rw [if_neg h1, if_neg (by omega)]
    · rw [List.getElem?_eq_none (by rw [xorZ_len]; exact hi), List.getElem?_eq_none (by rw [xorZ_len]; exact hi)]
theorem padK_small (l : List Nat) (x : Nat) (h : l.length ≤ 64) : xorZ l x 64 = padK l x := by
  unfold xorZ padK
  rw [if_neg (by omega)]
  exact List.map_congr_left fun i hi => by rw [if_pos (List.mem_range.1 hi)]
theorem padK_len (l : List Nat) (x : Nat) : (padK l x).length = 64 := by simp [padK]
theorem getD_lt {l : List Nat} (h : ∀ x ∈ l, x < 256) (i : Nat) : l.getD i 0 < 256 := by
  rw [List.getD_eq_getElem?_getD]
  cases e : l[i]? with
  | none => rw [Option.getD_none]; omega
  | some v => rw [Option.getD_some]; exact h v (List.mem_of_getElem? e)
theorem padK_lt {l : List Nat} (h : ∀ x ∈ l, x < 256) {x : Nat} (hx : x < 256) : ∀ y ∈ padK l x, y < 256 := by
  intro y hy
  unfold padK at hy
  obtain ⟨i, _, rfl⟩ := List.mem_map.1 hy
  refine Nat.xor_lt_two_pow (n := 8) ?_ hx
  split
  · exact getD_lt (kl_lt fun i _ => shaK_lt _ i) i
  · exact getD_lt h i
theorem copyZ (l : List Nat) (x : Nat) (h : l.length ≤ 64) : ((sl (ints .u8 (List.replicate 64 0)) []).toList.take 0 ++ oct l ++ (sl (ints .u8 (List.replicate 64 0)) []).toList.drop (0 + (oct l).length)).toArray = sl (oct (xorZ l x 0)) [] := by
  have e : (sl (ints .u8 (List.replicate 64 0)) []).toList = ints .u8 (List.replicate 64 0) := by unfold sl; simp
  rw [e, List.take_zero, List.nil_append, Nat.zero_add, ints_len]
  unfold sl
  rw [List.append_nil]
  congr 1
  have e2 : oct l ++ (ints .u8 (List.replicate 64 0)).drop l.length = oct (l ++ List.replicate (64 - l.length) 0) := by
    rw [show oct (l ++ List.replicate (64 - l.length) 0) = oct l ++ ints .u8 (List.replicate (64 - l.length) 0) from ints_app _ _ _]
    congr 1
    unfold ints
    rw [← List.map_drop, List.drop_replicate]
  rw [e2]
  congr 1
  refine List.ext_getElem? fun i => ?_
  rcases Nat.lt_or_ge i 64 with hi | hi
  · rw [xorZ_get l x 0 hi, if_neg (by omega), List.getD_eq_getElem?_getD]
    rcases Nat.lt_or_ge i l.length with h1 | h1
    · rw [List.getElem?_append_left h1, List.getElem?_eq_getElem h1]; rfl
    · rw [List.getElem?_append_right h1, List.getElem?_replicate, if_pos (by omega), List.getElem?_eq_none h1]; rfl
  · rw [List.getElem?_eq_none (by simp; omega), List.getElem?_eq_none (by rw [xorZ_len]; exact hi)]

set_option maxRecDepth 100000 in
set_option maxHeartbeats 4000000 in
theorem padded_any (gm : Nat) (p : SlP) (hbk : ∀ x ∈ p.l, x < 256) (hn : p.l.length = p.n) (h64 : p.n ≤ 64) (x : Nat) (hx : x < 256) (w : World) (hrd : RdS w p.v p.n (oct p.l)) : Calls Tryd.prog 105 #[.pointer (some ⟨gm, 0, none⟩), .slice p.ad p.n p.c, .int .u8 ((x : Nat) : Int)] w (MadeS [] 5 1 64 (oct (padK p.l x)) w) := by
  refine C_enter Tryd.func105 rfl 36 Tryd.ntmps105 (Nat.le_of_ble_eq_true rfl) (fun a F => ?_)
  have H := Hp.start [] w
  replace F : Fm 36 [] [(0, pt gm 0), (1, .slice p.ad p.n p.c), (2, nb x)] a := F.weak _ (subL_of kr)
  refine C_seqK (fun K1 hK1 => ?_)
  refine C_region ?_
  refine T_k F H (.slice none 0 0) ?_
  clear F; intro a F
  refine wpList_nil ?_
  refine hK1 _ _ ?_
  clear hK1
  try clear K1
  refine C_seqK (fun K2 hK2 => ?_)
  refine C_seqK (fun K3 hK3 => ?_)
  refine C_region ?_
  refine T_k F H (.slice p.ad p.n p.c) ?_
  clear F; intro a F
  refine T_k F H (ni p.n) ?_
  clear F; intro a F
  refine T_val F H kr (.bool false) (fun w _ => R_bin (x := (.tmp 11)) (y := (.const (.int .i64 64))) rfl (k := .i64) (a := ((p.n : Nat) : Int)) (b := ((64 : Nat) : Int)) kr kr (i_ngtn (a := p.n) (b := 64) (by omega)) w) ?_
  clear F; intro a F
  refine wpList_nil ?_
  refine hK3 _ _ ?_
  clear hK3
  try clear K3
  refine C_if F false rfl rfl ?_
  refine wp_skip ?_
  refine hK2 _ _ ?_
  clear hK2
  try clear K2
  refine C_seqK (fun K4 hK4 => ?_)
  refine C_region ?_
  refine T_new F H kr (fun ad => sc ad 0 (64) (64)) (ce (sl (ints .u8 (List.replicate (64) 0)) []) 5) (fun w => R_makeI (x := (.const (.int .i64 64))) (y := (.const (.int .i64 64))) rfl Tryd.underlying54 (m := 64) (k := .i64) (k' := .i64) kr kr .u8 (bytes := 1) kr kr (by omega) (by simp only [maxLen]; omega) w) ?_
  clear F H; intro aq5 a v F H
  refine T_k F H (sc aq5 0 64 64) ?_
  clear F; intro a F
  refine wpList_nil ?_
  refine hK4 _ _ ?_
  clear hK4
  try clear K4
  refine C_seqK (fun K6 hK6 => ?_)
  refine C_region ?_
  refine T_k F H (sc aq5 0 64 64) ?_
  clear F; intro a F
  refine T_k F H (.slice p.ad p.n p.c) ?_
  clear F; intro a F
  refine T_putV F H kr (ni p.n) 0 rfl (fun w hk hl => P_copy (s := (.tmp 19)) (x := (.tmp 20)) (t := 54) (e := 5) rfl kr kr (g := aq5) (off := 0) (dLen := 64) (cap := 64) kr (xv := .slice p.ad p.n p.c) kr (m := p.n) (cs := oct p.l) (hrd.kept hk (fun _ _ _ _ => List.not_mem_nil)) (by rw [ints_len]; exact hn) h64 (hl.at_ (k := 0) rfl) (by rw [sl_size, ints_len, List.length_replicate]; simp; omega) (ints_one _ _) _ (copyZ p.l x (by omega))) [bk aq5 (sl (oct (xorZ p.l x 0)) []) 5] rfl ?_
  clear F H; intro a v F H
  refine wpList_nil ?_
  refine hK6 _ _ ?_
  clear hK6
  try clear K6
  refine C_seqK (fun K7 hK7 => ?_)
  refine C_seqK (fun K8 hK8 => ?_)
  refine C_region ?_
  refine T_k F H (sc aq5 0 64 64) ?_
  clear F; intro a F
  refine T_k F H (ni 64) ?_
  clear F; intro a F
  refine T_k F H (ni 0) ?_
  clear F; intro a F
  refine wpList_nil ?_
  replace F : Fm 36 [] [(24, ni 0), (23, ni 64), (8, sc aq5 0 64 64), (2, nb x)] a := F.weak _ (subL_of kr)
  refine hK8 _ _ ?_
  clear hK8
  try clear K8
  refine wp_block ?_
  refine C_loop (fun m a v => ∃ k, k + m = 64 ∧ Fm 36 [] [(24, ni k), (23, ni 64), (8, sc aq5 0 64 64), (2, nb x)] a ∧ Hp [] w [bk aq5 (sl (oct (xorZ p.l x k)) []) 5] v) (64) ⟨0, Nat.zero_add _, F, H⟩ ?_
  clear F H
  intro m a v ⟨k, hk, F, H⟩
  rcases m with _ | m
  rotate_left
  · skip
    have hlk := getD_lt hbk k
    refine C_seqK (fun K9 hK9 => ?_)
    refine C_region ?_
    refine T_val F H kr (.bool true) (fun w _ => R_bin (x := (.tmp 24)) (y := (.tmp 23)) rfl (k := .i64) (a := ((k : Nat) : Int)) (b := ((64 : Nat) : Int)) kr kr (i_lt (by omega)) w) ?_
    clear F; intro a F
    refine wpList_nil ?_
    refine hK9 _ _ ?_
    clear hK9
    try clear K9
    refine C_seqK (fun K10 hK10 => ?_)
    refine C_if F true rfl rfl ?_
    refine wp_skip ?_
    refine hK10 _ _ ?_
    clear hK10
    try clear K10
    refine C_seqK (fun K11 hK11 => ?_)
    refine wp_block ?_
    refine C_seqK (fun K12 hK12 => ?_)
    refine C_region ?_
    refine T_k F H (ni k) ?_
    clear F; intro a F
    refine T_k F H (ni k) ?_
    clear F; intro a F
    refine wpList_nil ?_
    refine hK12 _ _ ?_
    clear hK12
    try clear K12
    refine C_region ?_
    refine T_k F H (sc aq5 0 64 64) ?_
    clear F; intro a F
    refine T_k F H (ni k) ?_
    clear F; intro a F
    refine T_val F H kr (pt aq5 (0 + (k) * 1)) (fun w _ => R_indexS (k := .i64) (g := aq5) (off := 0) (len := 64) (cap := 64) (x := (.tmp 27)) (y := (.tmp 28)) rfl Tryd.underlying54 kr (k) kr (by omega) (sz := 1) kr w) ?_
    clear F; intro a F
    refine T_val F H kr (nb (p.l.getD k 0)) (R_cell (own := true) (g := aq5) (all := (sl (oct (xorZ p.l x k)) [])) (t := 5) (fr := (0, 0)) 0 kr 5 (.tmp 29) rfl (0 + (k) * 1) kr (nb (p.l.getD k 0)) ((congrArg (fun q => ((sl (oct (xorZ p.l x k)) []))[q]?) (show (0 + (k) * 1) = k by omega)).trans (sl_get (ints_get (xorZ_at p.l x (by omega))))) _ Tryd.underlying5 rfl) ?_
    clear F; intro a F
    refine T_k F H (nb x) ?_
    clear F; intro a F
    refine T_val F H kr (nb (p.l.getD k 0 ^^^ x)) (fun w _ => R_bin (x := (.tmp 30)) (y := (.tmp 31)) rfl (k := .u8) (a := ((p.l.getD k 0 : Nat) : Int)) (b := ((x : Nat) : Int)) kr kr (i_xor8 (a := p.l.getD k 0) (b := x) (by omega) (by omega)) w) ?_
    clear F; intro a F
    refine T_val F H kr (pt aq5 (0 + (k) * 1)) (fun w _ => R_indexS (k := .i64) (g := aq5) (off := 0) (len := 64) (cap := 64) (x := (.tmp 27)) (y := (.tmp 28)) rfl Tryd.underlying54 kr (k) kr (by omega) (sz := 1) kr w) ?_
    clear F; intro a F
    refine T_set F H kr rfl 0 rfl _ (S_cell 0 rfl 5 (.tmp 33) (.tmp 32) rfl (0 + (k) * 1) kr (nb (p.l.getD k 0 ^^^ x)) kr rfl (by rw [sl_size, ints_len]; rw [xorZ_len]; omega) _ Tryd.underlying5 rfl kr) [bk aq5 (sl (ints .u8 ((xorZ p.l x k).set (k) ((p.l.getD k 0 ^^^ x)))) []) 5] (by rw [show (0 + (k) * 1) = k by omega, sl_set (by rw [ints_len]; rw [xorZ_len]; omega), ints_set]; rfl) ?_
    clear F H; intro a v F H
    refine wpList_nil ?_
    rw [xorZ_set p.l x (by omega)] at H
    refine hK11 _ _ ?_
    clear hK11
    try clear K11
    refine C_region ?_
    refine T_val F H kr (ni (k + 1)) (fun w _ => R_bin (x := (.tmp 24)) (y := (.const (.int .i64 1))) rfl (k := .i64) (a := ((k : Nat) : Int)) (b := ((1 : Nat) : Int)) kr kr (i_addn64 (a := k) (b := 1) (by omega)) w) ?_
    clear F; intro a F
    refine T_k F H (ni (k + 1)) ?_
    clear F; intro a F
    refine wpList_nil ?_
    replace F : Fm 36 [] [(24, ni (k + 1)), (23, ni 64), (8, sc aq5 0 64 64), (2, nb x)] a := F.weak _ (subL_of kr)
    replace H : Hp [] w [bk aq5 (sl (oct (xorZ p.l x (k + 1))) []) 5] v := H
    exact ⟨m, Nat.lt_succ_self m, k + 1, by omega, F, H⟩
  have hkt : k = 64 := by omega
  try rw [hkt] at F
  try rw [hkt] at H
  clear hk
  refine C_seqK (fun K13 hK13 => ?_)
  refine C_region ?_
  refine T_val F H kr (.bool false) (fun w _ => R_bin (x := (.tmp 24)) (y := (.tmp 23)) rfl (k := .i64) (a := ((64 : Nat) : Int)) (b := ((64 : Nat) : Int)) kr kr (i_nlt (by omega)) w) ?_
  clear F; intro a F
  refine wpList_nil ?_
  refine hK13 _ _ ?_
  clear hK13
  try clear K13
  refine C_seqK (fun K14 hK14 => ?_)
  refine C_if F false rfl rfl ?_
  refine wp_exit ?_
  refine hK7 _ _ ?_
  clear hK7
  try clear K7
  refine C_seqK (fun K15 hK15 => ?_)
  rw [padK_small p.l x (by omega)] at H
  refine C_region ?_
  refine T_k F H (sc aq5 0 64 64) ?_
  clear F; intro a F
  refine T_k F H (sc aq5 0 64 64) ?_
  clear F; intro a F
  refine wpList_nil ?_
  refine hK15 _ _ ?_
  clear hK15
  try clear K15
  refine wp_ret ?_
  exact C_ret F H (rs := [.tmp 6]) rfl (vs := [sc aq5 0 64 64]) (.tmp rfl .nil) (sc aq5 0 64 64) rfl (made_ret H (k := 0) rfl (own_all (by rw [ints_len, padK_len]) (by simp only [maxLen]; omega)))

set_option maxRecDepth 100000 in
set_option maxHeartbeats 4000000 in
theorem macsum_any (gm n : Nat) (p : SlP) (hbk : ∀ x ∈ p.l, x < 256) (hn : p.l.length = p.n) (h64 : p.n ≤ 64) (ps : List SlP) (h0 : 0 < (catP ps).length) (h1 : (catP ps).length < 549755813888) (h2 : ps.length < 1000000) (ad cp : Nat) (arr : Array Value) (ty : Nat) (ha : ∀ k, k < ps.length → arr[k]? = some (ps.getD k p0).v) (w : World) (hrds : AllR w ps) (hblk : w.heap[ad]? = some (.cells arr ty (0, 0))) (hrd : RdS w p.v p.n (oct p.l)) (hb : ∀ x ∈ catP ps, x < 256) (hW : Laid w) (hm : w.heap[gm]? = some (.cells (mtr n) 91 (0, 0))) : Calls Tryd.prog 90 #[.pointer (some ⟨gm, 0, none⟩), .slice p.ad p.n p.c, .slice (some ⟨ad, 0, none⟩) ps.length cp] w fun e w' => ∃ r : SlR, e = .returned (.agg (arrF .u8 32 (macK p.l (catP ps)))) ∧ r.n = n + 2 ∧ Kept [gm] w w' ∧ w'.heap[gm]? = some (.cells (mtr r.n) 91 (0, 0)) := by
  obtain ⟨h00, h01⟩ := hW.apart hm
  refine C_enter Tryd.func90 rfl 25 Tryd.ntmps90 (Nat.le_of_ble_eq_true rfl) (fun a F => ?_)
  have H := Hp.start1 [] hblk
  replace F : Fm 25 [] [(0, pt gm 0), (1, .slice p.ad p.n p.c), (2, sc ad 0 ps.length cp)] a := F.weak _ (subL_of kr)
  refine C_seqK (fun K1 hK1 => ?_)
  refine C_region ?_
  refine T_new F H kr (fun ad => pt ad 0) (ce z8 23) (fun w => kr) ?_
  clear F H; intro aq2 a v F H
  refine wpList_nil ?_
  refine hK1 _ _ ?_
  clear hK1
  try clear K1
  refine C_seqK (fun K3 hK3 => ?_)
  refine C_region ?_
  refine T_k F H (pt gm 0) ?_
  clear F; intro a F
  refine T_k F H (.slice p.ad p.n p.c) ?_
  clear F; intro a F
  refine T_callX (α := SlR) F H kr 105 #[pt gm 0, .slice p.ad p.n p.c, nb 92] (fun rX => sc rX.g 0 64 rX.cap) (fun rX => [bk rX.g (sl (oct (padK p.l 92)) rX.rest) 5, bk aq2 z8 23, br ad arr ty]) (fun rX => Own (oct (padK p.l 92)) rX.rest (64) rX.cap 1) (fun w => kr) (fun w H => callsX_newV H (padded_any gm p hbk hn h64 92 (by omega) _ (hrd.kept H.kept (fun _ _ _ _ => List.not_mem_nil)))) ?_
  clear F H; intro rq4 a v Qrq4 F H
  refine T_k F H (sc rq4.g 0 64 rq4.cap) ?_
  clear F; intro a F
  refine wpList_nil ?_
  refine hK3 _ _ ?_
  clear hK3
  try clear K3
  refine C_seqK (fun K5 hK5 => ?_)
  refine C_region ?_
  refine T_k F H (pt gm 0) ?_
  clear F; intro a F
  refine T_k F H (pt gm 0) ?_
  clear F; intro a F
  refine T_k F H (.slice p.ad p.n p.c) ?_
  clear F; intro a F
  refine T_callX (α := SlR) F H kr 105 #[pt gm 0, .slice p.ad p.n p.c, nb 54] (fun rX => sc rX.g 0 64 rX.cap) (fun rX => [bk rX.g (sl (oct (padK p.l 54)) rX.rest) 5, bk rq4.g (sl (oct (padK p.l 92)) rq4.rest) 5, bk aq2 z8 23, br ad arr ty]) (fun rX => Own (oct (padK p.l 54)) rX.rest (64) rX.cap 1) (fun w => kr) (fun w H => callsX_newV H (padded_any gm p hbk hn h64 54 (by omega) _ (hrd.kept H.kept (fun _ _ _ _ => List.not_mem_nil)))) ?_
  clear F H; intro rq6 a v Qrq6 F H
  refine T_k F H (sc ad 0 ps.length cp) ?_
  clear F; intro a F
  refine T_callX (α := SlR) F H kr 74 #[sc ad 0 ps.length cp] (fun rX => sc rX.g 0 (catP ps).length rX.cap) (fun rX => [bk rX.g (sl (oct (catP ps)) rX.rest) 5, bk rq6.g (sl (oct (padK p.l 54)) rq6.rest) 5, bk rq4.g (sl (oct (padK p.l 92)) rq4.rest) 5, bk aq2 z8 23, br ad arr ty]) (fun rX => Own (oct (catP ps)) rX.rest ((catP ps).length) rX.cap 1) (fun w => kr) (fun w H => callsX_newV H (join_any ps h0 (by omega) h2 ad cp arr ty ha _ (hrds.kept H.kept) (H.at_ (k := 3) rfl))) ?_
  clear F H; intro rq7 a v Qrq7 F H
  refine T_new F H kr (fun ad => sc ad 0 2 2) (ce #[sc rq6.g 0 64 rq6.cap, sc rq7.g 0 (catP ps).length rq7.cap] 54) (fun w => R_buildS (len := 2) rfl Tryd.underlying30 (#[sc rq6.g 0 64 rq6.cap, sc rq7.g 0 (catP ps).length rq7.cap]) kr w) ?_
  clear F H; intro aq8 a v F H
  replace H : Hp [] w [bk aq8 #[sc rq6.g 0 64 rq6.cap, sc rq7.g 0 (catP ps).length rq7.cap] 54, bk rq7.g (sl (oct (catP ps)) rq7.rest) 5, bk rq6.g (sl (oct (padK p.l 54)) rq6.rest) 5, bk rq4.g (sl (oct (padK p.l 92)) rq4.rest) 5, bk aq2 z8 23] v := H.pick [0, 1, 2, 3, 4] kr _ rfl
  replace H := H.addX (H.kept.at_ hm) hm kr
  replace H : Hp [gm] w [bk gm (mtr n) 91, bk aq8 #[sc rq6.g 0 64 rq6.cap, sc rq7.g 0 (catP ps).length rq7.cap] 54, bk rq7.g (sl (oct (catP ps)) rq7.rest) 5, bk rq6.g (sl (oct (padK p.l 54)) rq6.rest) 5, bk rq4.g (sl (oct (padK p.l 92)) rq4.rest) 5, bk aq2 z8 23] v := H
  refine T_callX (α := SlR) F H kr 48 #[pt gm 0, sc aq8 0 2 2] (fun rX => kyV (shaK ((padK p.l 54) ++ (catP ps)))) (fun rX => [bk gm (mtr rX.n) 91, bk aq8 #[sc rq6.g 0 64 rq6.cap, sc rq7.g 0 (catP ps).length rq7.cap] 54, bk rq7.g (sl (oct (catP ps)) rq7.rest) 5, bk rq6.g (sl (oct (padK p.l 54)) rq6.rest) 5, bk rq4.g (sl (oct (padK p.l 92)) rq4.rest) 5, bk aq2 z8 23]) (fun rX => rX.n = n + 1) (fun w => kr) (fun w H => callsX_putV H (k := 0) rfl (msum_to gm n [⟨some ⟨rq6.g, 0, none⟩, 64, rq6.cap, padK p.l 54⟩, ⟨some ⟨rq7.g, 0, none⟩, (catP ps).length, rq7.cap, catP ps⟩] ((padK p.l 54) ++ (catP ps)) (by simp [catP]) ⟨by rw [List.length_append, padK_len]; omega, by rw [List.length_append, padK_len]; first | omega | (rw [kl_len]; omega), by simp⟩ _ _ (#[sc rq6.g 0 64 rq6.cap, sc rq7.g 0 (catP ps).length rq7.cap]) _ kr _ ⟨(RdS.all (H.at_ (k := 3) rfl) (Own.le Qrq6)), (padK_len _ _), ⟨(RdS.all (H.at_ (k := 2) rfl) (Own.le Qrq7)), (by first | rfl | simp [highL_len, hb_len, kl_len]), trivial⟩⟩ (H.at_ (k := 1) rfl) (fun y hy => (List.mem_append.1 hy).elim (padK_lt hbk (by omega) y) (hb y)) (hW.kept H.kept h00 h01) (H.at_ (k := 0) rfl))) ?_
  clear F H; intro rq9 a v Qrq9 F H
  refine T_new F H kr (fun ad => pt ad 0) (ce z8 23) (fun w => kr) ?_
  clear F H; intro aq10 a v F H
  refine T_set F H kr rfl 0 rfl (arrF .u8 32 (shaK ((padK p.l 54) ++ (catP ps)))) (S_row 0 rfl 23 (.tmp 8) (.tmp 19) rfl kr (arrF .u8 32 (shaK ((padK p.l 54) ++ (catP ps)))) kr (by rw [arrF_size]; kernel_rfl) (by rw [arrF_size]; kernel_rfl) (arrF_one _ _ _)) [bk aq10 (arrF .u8 32 (shaK ((padK p.l 54) ++ (catP ps)))) 23, bk gm (mtr rq9.n) 91, bk aq8 #[sc rq6.g 0 64 rq6.cap, sc rq7.g 0 (catP ps).length rq7.cap] 54, bk rq7.g (sl (oct (catP ps)) rq7.rest) 5, bk rq6.g (sl (oct (padK p.l 54)) rq6.rest) 5, bk rq4.g (sl (oct (padK p.l 92)) rq4.rest) 5, bk aq2 z8 23] rfl ?_
  clear F H; intro a v F H
  refine wpList_nil ?_
  refine hK5 _ _ ?_
  clear hK5
  try clear K5
  refine C_seqK (fun K11 hK11 => ?_)
  refine C_region ?_
  refine T_k F H (pt gm 0) ?_
  clear F; intro a F
  refine T_k F H (sc rq4.g 0 64 rq4.cap) ?_
  clear F; intro a F
  refine T_k F H (sc aq10 0 32 32) ?_
  clear F; intro a F
  refine T_new F H kr (fun ad => sc ad 0 2 2) (ce #[sc rq4.g 0 64 rq4.cap, sc aq10 0 32 32] 54) (fun w => R_buildS (len := 2) rfl Tryd.underlying30 (#[sc rq4.g 0 64 rq4.cap, sc aq10 0 32 32]) kr w) ?_
  clear F H; intro aq12 a v F H
  refine T_callX (α := SlR) F H kr 48 #[pt gm 0, sc aq12 0 2 2] (fun rX => kyV (shaK ((padK p.l 92) ++ (kl (shaK ((padK p.l 54) ++ (catP ps))))))) (fun rX => [bk aq12 #[sc rq4.g 0 64 rq4.cap, sc aq10 0 32 32] 54, bk aq10 (arrF .u8 32 (shaK ((padK p.l 54) ++ (catP ps)))) 23, bk gm (mtr rX.n) 91, bk aq8 #[sc rq6.g 0 64 rq6.cap, sc rq7.g 0 (catP ps).length rq7.cap] 54, bk rq7.g (sl (oct (catP ps)) rq7.rest) 5, bk rq6.g (sl (oct (padK p.l 54)) rq6.rest) 5, bk rq4.g (sl (oct (padK p.l 92)) rq4.rest) 5, bk aq2 z8 23]) (fun rX => rX.n = rq9.n + 1) (fun w => kr) (fun w H => callsX_putV H (k := 2) rfl (msum_to gm rq9.n [⟨some ⟨rq4.g, 0, none⟩, 64, rq4.cap, padK p.l 92⟩, ⟨some ⟨aq10, 0, none⟩, 32, 32, kl (shaK ((padK p.l 54) ++ (catP ps)))⟩] ((padK p.l 92) ++ (kl (shaK ((padK p.l 54) ++ (catP ps))))) (by simp [catP]) ⟨by rw [List.length_append, padK_len]; omega, by rw [List.length_append, padK_len]; first | omega | (rw [kl_len]; omega), by simp⟩ _ _ (#[sc rq4.g 0 64 rq4.cap, sc aq10 0 32 32]) _ kr _ ⟨(RdS.all (H.at_ (k := 6) rfl) (Own.le Qrq4)), (padK_len _ _), ⟨(RdS.of (H.at_ (k := 1) rfl) (Nat.le_refl _) (rd_key (shaK ((padK p.l 54) ++ (catP ps))))), (by first | rfl | simp [highL_len, hb_len, kl_len]), trivial⟩⟩ (H.at_ (k := 0) rfl) (fun y hy => (List.mem_append.1 hy).elim (padK_lt hbk (by omega) y) (kl_lt (fun i _ => shaK_lt _ i) y)) (hW.kept H.kept h00 h01) (H.at_ (k := 2) rfl))) ?_
  clear F H; intro rq13 a v Qrq13 F H
  refine T_set F H kr rfl 7 rfl (arrF .u8 32 (shaK ((padK p.l 92) ++ (kl (shaK ((padK p.l 54) ++ (catP ps))))))) (S_row 7 rfl 23 (.tmp 6) (.tmp 24) rfl kr (arrF .u8 32 (shaK ((padK p.l 92) ++ (kl (shaK ((padK p.l 54) ++ (catP ps))))))) kr (by rw [arrF_size]; kernel_rfl) (by rw [arrF_size]; kernel_rfl) (arrF_one _ _ _)) [bk aq12 #[sc rq4.g 0 64 rq4.cap, sc aq10 0 32 32] 54, bk aq10 (arrF .u8 32 (shaK ((padK p.l 54) ++ (catP ps)))) 23, bk gm (mtr rq13.n) 91, bk aq8 #[sc rq6.g 0 64 rq6.cap, sc rq7.g 0 (catP ps).length rq7.cap] 54, bk rq7.g (sl (oct (catP ps)) rq7.rest) 5, bk rq6.g (sl (oct (padK p.l 54)) rq6.rest) 5, bk rq4.g (sl (oct (padK p.l 92)) rq4.rest) 5, bk aq2 (arrF .u8 32 (shaK ((padK p.l 92) ++ (kl (shaK ((padK p.l 54) ++ (catP ps))))))) 23] rfl ?_
  clear F H; intro a v F H
  refine wpList_nil ?_
  refine hK11 _ _ ?_
  clear hK11
  try clear K11
  refine wp_ret ?_
  exact C_ret F H (rs := [.cell 6 23]) rfl (vs := [kyV (shaK ((padK p.l 92) ++ (kl (shaK ((padK p.l 54) ++ (catP ps))))))]) (.row 7 rfl rfl _ Tryd.underlying23 rfl kr .nil) (kyV (shaK ((padK p.l 92) ++ (kl (shaK ((padK p.l 54) ++ (catP ps))))))) rfl ⟨⟨0, 0, [], rq13.n⟩, rfl, by show rq13.n = n + 2; omega, H.kept, H.at_ (k := 2) rfl⟩
end Go.Proofs.YtdejhenkdbjakaaDoor
