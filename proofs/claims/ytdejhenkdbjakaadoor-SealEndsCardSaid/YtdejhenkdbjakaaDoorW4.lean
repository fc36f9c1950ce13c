/- Walks: slices one behind the other. -/
import Derived.Test.YtdejhenkdbjakaaDoorW3
set_option linter.unusedVariables false
set_option linter.unusedSimpArgs false
namespace Go.Proofs.YtdejhenkdbjakaaDoor
open Go Go.RowKit
set_option maxRecDepth 100000 in
set_option maxHeartbeats 4000000 in
theorem grow_any (n : Nat) (h0 : 0 < n) (h1 : n < 70368744177664) (w : World) : Calls Tryd.prog 94 #[.slice none 0 0, .int .i64 ((n : Nat) : Int)] w fun e w' => ∃ r : SlR, e = .returned (.slice (some ⟨r.g, 0, none⟩) 0 r.cap) ∧ (Own [] r.rest 0 r.cap 1 ∧ n ≤ r.cap) ∧ w.heap.size ≤ r.g ∧ w'.heap[r.g]? = some (.cells (sl [] r.rest) 5 (0, 0)) ∧ Kept [] w w' := by
  refine C_enter Tryd.func94 rfl 27 Tryd.ntmps94 (Nat.le_of_ble_eq_true rfl) (fun a F => ?_)
  have H := Hp.start [] w
  replace F : Fm 27 [] [(0, .slice none 0 0), (1, ni n)] a := F.weak _ (subL_of kr)
  refine C_seqK (fun K1 hK1 => ?_)
  refine C_region ?_
  refine T_k F H (.slice none 0 0) ?_
  clear F; intro a F
  refine wpList_nil ?_
  refine hK1 _ _ ?_
  clear hK1
  try clear K1
  refine C_seqK (fun K2 hK2 => ?_)
  refine C_seqK (fun K3 hK3 => ?_)
  refine C_region ?_
  refine T_k F H (ni n) ?_
  clear F; intro a F
  refine T_val F H kr (.bool false) (fun w _ => R_bin (x := (.tmp 5)) (y := (.const (.int .i64 0))) rfl (k := .i64) (a := ((n : Nat) : Int)) (b := ((0 : Nat) : Int)) kr kr (i_nlt (by omega)) w) ?_
  clear F; intro a F
  refine wpList_nil ?_
  refine hK3 _ _ ?_
  clear hK3
  try clear K3
  refine C_if F false rfl rfl ?_
  refine wp_skip ?_
  refine hK2 _ _ ?_
  clear hK2
  try clear K2
  refine C_seqK (fun K4 hK4 => ?_)
  refine C_seqK (fun K5 hK5 => ?_)
  refine C_region ?_
  refine T_k F H (ni n) ?_
  clear F; intro a F
  refine T_k F H (.slice none 0 0) ?_
  clear F; intro a F
  refine T_k F H (ni 0) ?_
  clear F; intro a F
  refine T_k F H (.slice none 0 0) ?_
  clear F; intro a F
  refine T_k F H (ni 0) ?_
  clear F; intro a F
  refine T_k F H (ni 0) ?_
  clear F; intro a F
  refine T_val F H kr (ni n) (fun w _ => R_bin (x := (.tmp 8)) (y := (.tmp 13)) rfl (k := .i64) (a := ((n : Nat) : Int)) (b := ((0 : Nat) : Int)) kr kr (i_subn64 (a := n) (b := 0) (by omega) (by omega)) w) ?_
  clear F; intro a F
  refine T_k F H (ni n) ?_
  clear F; intro a F
  refine wpList_nil ?_
  refine hK5 _ _ ?_
  clear hK5
  try clear K5
  refine C_seqK (fun K6 hK6 => ?_)
  refine C_region ?_
  refine T_k F H (ni n) ?_
  clear F; intro a F
  refine T_val F H kr (.bool true) (fun w _ => R_bin (x := (.tmp 15)) (y := (.const (.int .i64 0))) rfl (k := .i64) (a := ((n : Nat) : Int)) (b := ((0 : Nat) : Int)) kr kr (i_gtn (by omega)) w) ?_
  clear F; intro a F
  refine wpList_nil ?_
  refine hK6 _ _ ?_
  clear hK6
  try clear K6
  refine C_if F true rfl rfl ?_
  refine C_region ?_
  refine T_k F H (.slice none 0 0) ?_
  clear F; intro a F
  refine T_k F H (.slice none 0 0) ?_
  clear F; intro a F
  refine T_k F H (ni 0) ?_
  clear F; intro a F
  refine T_val F H kr (.slice none 0 0) (fun w _ => R_slice (x := (.tmp 17)) (lo := none) (hi := (some (.tmp 19))) rfl Tryd.underlying54 (ad := none) (len := 0) (cap := 0) kr 0 0 rfl ⟨.i64, kr⟩ (by omega) (by omega) (sz := 1) kr _ rfl w) ?_
  clear F; intro a F
  refine T_k F H (ni n) ?_
  clear F; intro a F
  refine T_appZ F H kr 54 3 5 (.tmp 20) (.tmp 21) rfl 1 1 (k := .i64) (k' := .i64) kr kr kr kr n kr h0 (by simp only [maxLen]; omega) (by omega) ?_
  clear F H; intro rq a v Q1 Q2 F H
  refine T_k F H (.slice none 0 0) ?_
  clear F; intro a F
  refine T_k F H (ni 0) ?_
  clear F; intro a F
  refine T_val F H kr (sc rq.g 0 0 rq.cap) (fun w _ => R_slice (x := (.tmp 22)) (lo := none) (hi := (some (.tmp 24))) rfl Tryd.underlying54 (ad := some ⟨rq.g, 0, none⟩) (len := n) (cap := rq.cap) kr (0) (0) rfl ⟨.i64, kr⟩ (by omega) (Nat.zero_le _) (sz := 1) kr _ slice0 w) ?_
  clear F; intro a F
  refine T_k F H (sc rq.g 0 0 rq.cap) ?_
  clear F; intro a F
  refine wpList_nil ?_
  refine hK4 _ _ ?_
  clear hK4
  try clear K4
  refine C_seqK (fun K7 hK7 => ?_)
  refine C_region ?_
  refine T_k F H (sc rq.g 0 0 rq.cap) ?_
  clear F; intro a F
  refine T_k F H (sc rq.g 0 0 rq.cap) ?_
  clear F; intro a F
  refine wpList_nil ?_
  refine hK7 _ _ ?_
  clear hK7
  try clear K7
  refine wp_ret ?_
  exact C_ret F H (rs := [.tmp 4]) rfl (vs := [sc rq.g 0 0 rq.cap]) (.tmp rfl .nil) (sc rq.g 0 0 rq.cap) rfl ⟨rq, rfl, ⟨Q1, Q2⟩, H.newAt (k := 0) rfl, H.at_ (k := 0) rfl, H.kept⟩

set_option maxRecDepth 100000 in
set_option maxHeartbeats 4000000 in
theorem concat_any (ps : List SlP) (h0 : 0 < (catP ps).length) (h1 : (catP ps).length < 70368744177664) (h2 : ps.length < 1000000) (ad cp : Nat) (arr : Array Value) (ty : Nat) (ha : ∀ k, k < ps.length → arr[k]? = some (ps.getD k p0).v) (w : World) (hrd : AllR w ps) (hblk : w.heap[ad]? = some (.cells arr ty (0, 0))) : Calls Tryd.prog 71 #[.slice (some ⟨ad, 0, none⟩) ps.length cp] w (MadeS [] 5 1 (catP ps).length (oct (catP ps)) w) := by
  refine C_enter Tryd.func71 rfl 36 Tryd.ntmps71 (Nat.le_of_ble_eq_true rfl) (fun a F => ?_)
  have H := Hp.start1 [] hblk
  have hlen := catK_all ps
  replace F : Fm 36 [] [(0, sc ad 0 ps.length cp)] a := F.weak _ (subL_of kr)
  refine C_seqK (fun K1 hK1 => ?_)
  refine C_region ?_
  refine T_k F H (.slice none 0 0) ?_
  clear F; intro a F
  refine wpList_nil ?_
  refine hK1 _ _ ?_
  clear hK1
  try clear K1
  refine C_seqK (fun K2 hK2 => ?_)
  refine C_region ?_
  refine T_k F H (ni 0) ?_
  clear F; intro a F
  refine wpList_nil ?_
  refine hK2 _ _ ?_
  clear hK2
  try clear K2
  refine C_seqK (fun K3 hK3 => ?_)
  refine C_seqK (fun K4 hK4 => ?_)
  refine C_region ?_
  refine T_k F H (sc ad 0 ps.length cp) ?_
  clear F; intro a F
  refine T_k F H (ni ps.length) ?_
  clear F; intro a F
  refine T_k F H (ni 0) ?_
  clear F; intro a F
  refine wpList_nil ?_
  replace F : Fm 36 [] [(11, ni 0), (10, ni ps.length), (3, ni 0), (9, sc ad 0 ps.length cp), (0, sc ad 0 ps.length cp)] a := F.weak _ (subL_of kr)
  refine hK4 _ _ ?_
  clear hK4
  try clear K4
  refine wp_block ?_
  refine C_loop (fun m a v => ∃ k, k + m = ps.length ∧ Fm 36 [] [(11, ni k), (10, ni ps.length), (3, ni ((catK ps k).length)), (9, sc ad 0 ps.length cp), (0, sc ad 0 ps.length cp)] a ∧ Hp [] w [br ad arr ty] v) (ps.length) ⟨0, Nat.zero_add _, F, H⟩ ?_
  clear F H
  intro m a v ⟨k, hk, F, H⟩
  rcases m with _ | m
  rotate_left
  · skip
    have hk1 := catK_len ps (k := k + 1) (by omega)
    have hk2 : (catK ps (k + 1)).length = (catK ps k).length + (ps.getD k p0).n := by rw [catK, List.length_append, (hrd.at_ (by omega)).2]
    refine C_seqK (fun K5 hK5 => ?_)
    refine C_region ?_
    refine T_val F H kr (.bool true) (fun w _ => R_bin (x := (.tmp 11)) (y := (.tmp 10)) rfl (k := .i64) (a := ((k : Nat) : Int)) (b := ((ps.length : Nat) : Int)) kr kr (i_lt (by omega)) w) ?_
    clear F; intro a F
    refine wpList_nil ?_
    refine hK5 _ _ ?_
    clear hK5
    try clear K5
    refine C_seqK (fun K6 hK6 => ?_)
    refine C_if F true rfl rfl ?_
    refine wp_skip ?_
    refine hK6 _ _ ?_
    clear hK6
    try clear K6
    refine C_seqK (fun K7 hK7 => ?_)
    refine wp_block ?_
    refine C_seqK (fun K8 hK8 => ?_)
    refine C_region ?_
    refine T_val F H kr (pt ad (0 + (k) * 1)) (fun w _ => R_indexS (k := .i64) (g := ad) (off := 0) (len := ps.length) (cap := cp) (x := (.tmp 9)) (y := (.tmp 11)) rfl Tryd.underlying30 kr (k) kr (by omega) (sz := 1) kr w) ?_
    clear F; intro a F
    refine T_val F H kr (.slice (ps.getD k p0).ad (ps.getD k p0).n (ps.getD k p0).c) (R_cell 0 rfl 54 (.tmp 13) rfl (0 + (k) * 1) kr (.slice (ps.getD k p0).ad (ps.getD k p0).n (ps.getD k p0).c) ((congrArg (fun q => arr[q]?) (show 0 + k * 1 = k by omega)).trans (ha k (by omega))) _ Tryd.underlying54 rfl) ?_
    clear F; intro a F
    refine T_k F H (.slice (ps.getD k p0).ad (ps.getD k p0).n (ps.getD k p0).c) ?_
    clear F; intro a F
    refine wpList_nil ?_
    refine hK8 _ _ ?_
    clear hK8
    try clear K8
    refine C_seqK (fun K9 hK9 => ?_)
    refine C_region ?_
    refine T_k F H (ni ((catK ps k).length)) ?_
    clear F; intro a F
    refine T_k F H (.slice (ps.getD k p0).ad (ps.getD k p0).n (ps.getD k p0).c) ?_
    clear F; intro a F
    refine T_k F H (ni ((ps.getD k p0).n)) ?_
    clear F; intro a F
    refine T_val F H kr (ni ((catK ps (k + 1)).length)) (fun w _ => R_bin (x := (.tmp 15)) (y := (.tmp 17)) rfl (k := .i64) (a := (((catK ps k).length : Nat) : Int)) (b := (((ps.getD k p0).n : Nat) : Int)) kr kr ((i_addn64 (a := (catK ps k).length) (b := (ps.getD k p0).n) (by omega)).trans (congrArg (fun q : Nat => some (Value.int .i64 (q : Int))) hk2.symm)) w) ?_
    clear F; intro a F
    refine T_k F H (ni ((catK ps (k + 1)).length)) ?_
    clear F; intro a F
    refine wpList_nil ?_
    refine hK9 _ _ ?_
    clear hK9
    try clear K9
    refine C_seqK (fun K10 hK10 => ?_)
    refine C_region ?_
    refine T_k F H (ni ((catK ps (k + 1)).length)) ?_
    clear F; intro a F
    refine T_val F H kr (.bool false) (fun w _ => R_bin (x := (.tmp 19)) (y := (.const (.int .i64 0))) rfl (k := .i64) (a := (((catK ps (k + 1)).length : Nat) : Int)) (b := ((0 : Nat) : Int)) kr kr (i_nlt (by omega)) w) ?_
    clear F; intro a F
    refine wpList_nil ?_
    refine hK10 _ _ ?_
    clear hK10
    try clear K10
    refine C_if F false rfl rfl ?_
    refine wp_skip ?_
    refine hK7 _ _ ?_
    clear hK7
    try clear K7
    refine C_region ?_
    refine T_val F H kr (ni (k + 1)) (fun w _ => R_bin (x := (.tmp 11)) (y := (.const (.int .i64 1))) rfl (k := .i64) (a := ((k : Nat) : Int)) (b := ((1 : Nat) : Int)) kr kr (i_addn64 (a := k) (b := 1) (by omega)) w) ?_
    clear F; intro a F
    refine T_k F H (ni (k + 1)) ?_
    clear F; intro a F
    refine wpList_nil ?_
    replace F : Fm 36 [] [(11, ni (k + 1)), (10, ni ps.length), (3, ni ((catK ps (k + 1)).length)), (9, sc ad 0 ps.length cp), (0, sc ad 0 ps.length cp)] a := F.weak _ (subL_of kr)
    replace H : Hp [] w [br ad arr ty] v := H
    exact ⟨m, Nat.lt_succ_self m, k + 1, by omega, F, H⟩
  have hkt : k = ps.length := by omega
  try rw [hkt] at F
  try rw [hkt] at H
  clear hk
  refine C_seqK (fun K11 hK11 => ?_)
  refine C_region ?_
  refine T_val F H kr (.bool false) (fun w _ => R_bin (x := (.tmp 11)) (y := (.tmp 10)) rfl (k := .i64) (a := ((ps.length : Nat) : Int)) (b := ((ps.length : Nat) : Int)) kr kr (i_nlt (by omega)) w) ?_
  clear F; intro a F
  refine wpList_nil ?_
  refine hK11 _ _ ?_
  clear hK11
  try clear K11
  refine C_seqK (fun K12 hK12 => ?_)
  refine C_if F false rfl rfl ?_
  refine wp_exit ?_
  refine hK3 _ _ ?_
  clear hK3
  try clear K3
  refine C_seqK (fun K13 hK13 => ?_)
  refine C_region ?_
  refine T_k F H (ni ((catK ps ps.length).length)) ?_
  clear F; intro a F
  refine T_callX (α := SlR) F H kr 94 #[.slice none 0 0, ni ((catK ps ps.length).length)] (fun rX => sc rX.g 0 0 rX.cap) (fun rX => [bk rX.g (sl [] rX.rest) 5, br ad arr ty]) (fun rX => Own [] rX.rest 0 rX.cap 1 ∧ (catK ps ps.length).length ≤ rX.cap) (fun w => kr) (fun w H => callsX_newV H (grow_any _ (by rw [hlen]; exact h0) (by rw [hlen]; exact h1) _)) ?_
  clear F H; intro rq14 a v Qrq14 F H
  refine T_k F H (sc rq14.g 0 0 rq14.cap) ?_
  clear F; intro a F
  refine wpList_nil ?_
  refine hK13 _ _ ?_
  clear hK13
  try clear K13
  refine C_seqK (fun K15 hK15 => ?_)
  refine C_seqK (fun K16 hK16 => ?_)
  refine C_region ?_
  refine T_k F H (sc ad 0 ps.length cp) ?_
  clear F; intro a F
  refine T_k F H (ni ps.length) ?_
  clear F; intro a F
  refine T_k F H (ni 0) ?_
  clear F; intro a F
  refine wpList_nil ?_
  replace F : Fm 36 [] [(27, ni 0), (26, ni ps.length), (6, sc rq14.g 0 0 rq14.cap), (25, sc ad 0 ps.length cp)] a := F.weak _ (subL_of kr)
  refine hK16 _ _ ?_
  clear hK16
  try clear K16
  refine wp_block ?_
  refine C_loop (fun m a v => ∃ (k : Nat) (r : SlR), k + m = ps.length ∧ Own (oct (catK ps k)) r.rest (catK ps k).length r.cap 1 ∧ Fm 36 [] [(27, ni k), (26, ni ps.length), (6, sc r.g 0 (catK ps k).length r.cap), (25, sc ad 0 ps.length cp)] a ∧ Hp [] w [bk r.g (sl (oct (catK ps k)) r.rest) 5, br ad arr ty] v) (ps.length) ⟨0, rq14, Nat.zero_add _, Qrq14.1, F, H⟩ ?_
  clear F H
  intro m a v ⟨k, r, hk, hO, F, H⟩
  rcases m with _ | m
  rotate_left
  · skip
    have hk1 := catK_len ps (k := k + 1) (by omega)
    have hk2 : (catK ps k).length + (ps.getD k p0).n = (catK ps (k + 1)).length := by rw [catK, List.length_append, (hrd.at_ (by omega)).2]
    have hk3 : oct (catK ps k) ++ oct (ps.getD k p0).l = oct (catK ps (k + 1)) := (ints_app .u8 _ _).symm
    refine C_seqK (fun K17 hK17 => ?_)
    refine C_region ?_
    refine T_val F H kr (.bool true) (fun w _ => R_bin (x := (.tmp 27)) (y := (.tmp 26)) rfl (k := .i64) (a := ((k : Nat) : Int)) (b := ((ps.length : Nat) : Int)) kr kr (i_lt (by omega)) w) ?_
    clear F; intro a F
    refine wpList_nil ?_
    refine hK17 _ _ ?_
    clear hK17
    try clear K17
    refine C_seqK (fun K18 hK18 => ?_)
    refine C_if F true rfl rfl ?_
    refine wp_skip ?_
    refine hK18 _ _ ?_
    clear hK18
    try clear K18
    refine C_seqK (fun K19 hK19 => ?_)
    refine wp_block ?_
    refine C_seqK (fun K20 hK20 => ?_)
    refine C_region ?_
    refine T_val F H kr (pt ad (0 + (k) * 1)) (fun w _ => R_indexS (k := .i64) (g := ad) (off := 0) (len := ps.length) (cap := cp) (x := (.tmp 25)) (y := (.tmp 27)) rfl Tryd.underlying30 kr (k) kr (by omega) (sz := 1) kr w) ?_
    clear F; intro a F
    refine T_val F H kr (.slice (ps.getD k p0).ad (ps.getD k p0).n (ps.getD k p0).c) (R_cell 1 rfl 54 (.tmp 29) rfl (0 + (k) * 1) kr (.slice (ps.getD k p0).ad (ps.getD k p0).n (ps.getD k p0).c) ((congrArg (fun q => arr[q]?) (show 0 + k * 1 = k by omega)).trans (ha k (by omega))) _ Tryd.underlying54 rfl) ?_
    clear F; intro a F
    refine T_k F H (.slice (ps.getD k p0).ad (ps.getD k p0).n (ps.getD k p0).c) ?_
    clear F; intro a F
    refine wpList_nil ?_
    refine hK20 _ _ ?_
    clear hK20
    try clear K20
    refine C_region ?_
    refine T_k F H (sc r.g 0 (catK ps k).length r.cap) ?_
    clear F; intro a F
    refine T_k F H (.slice (ps.getD k p0).ad (ps.getD k p0).n (ps.getD k p0).c) ?_
    clear F; intro a F
    refine T_app F H kr 54 5 (.tmp 31) (.tmp 32) rfl 1 1 kr kr 0 rfl hO kr ((ps.getD k p0).n) (oct ((ps.getD k p0).l)) (fun w hk hl => ((hrd.at_ (by omega)).1.kept hk (fun _ _ _ _ => List.not_mem_nil))) (by rw [ints_len, Nat.mul_one]; exact (hrd.at_ (by omega)).2) (ints_one _ _) (by simp only [maxLen]; omega) (by omega) _ rfl ?_
    clear F H; intro rq21 a v Qrq21 F H
    refine T_k F H (sc rq21.g 0 ((catK ps k).length + (ps.getD k p0).n) rq21.cap) ?_
    clear F; intro a F
    refine wpList_nil ?_
    rw [hk2, hk3] at Qrq21
    rw [hk3] at H
    rw [hk2] at F
    refine hK19 _ _ ?_
    clear hK19
    try clear K19
    refine C_region ?_
    refine T_val F H kr (ni (k + 1)) (fun w _ => R_bin (x := (.tmp 27)) (y := (.const (.int .i64 1))) rfl (k := .i64) (a := ((k : Nat) : Int)) (b := ((1 : Nat) : Int)) kr kr (i_addn64 (a := k) (b := 1) (by omega)) w) ?_
    clear F; intro a F
    refine T_k F H (ni (k + 1)) ?_
    clear F; intro a F
    refine wpList_nil ?_
    replace F : Fm 36 [] [(27, ni (k + 1)), (26, ni ps.length), (6, sc rq21.g 0 (catK ps (k + 1)).length rq21.cap), (25, sc ad 0 ps.length cp)] a := F.weak _ (subL_of kr)
    replace H : Hp [] w [bk rq21.g (sl (oct (catK ps (k + 1))) rq21.rest) 5, br ad arr ty] v := H
    exact ⟨m, Nat.lt_succ_self m, k + 1, rq21, by omega, Qrq21, F, H⟩
  have hkt : k = ps.length := by omega
  rw [hkt] at F H hO
  clear hk
  rw [hlen] at F H hO
  refine C_seqK (fun K22 hK22 => ?_)
  refine C_region ?_
  refine T_val F H kr (.bool false) (fun w _ => R_bin (x := (.tmp 27)) (y := (.tmp 26)) rfl (k := .i64) (a := ((ps.length : Nat) : Int)) (b := ((ps.length : Nat) : Int)) kr kr (i_nlt (by omega)) w) ?_
  clear F; intro a F
  refine wpList_nil ?_
  refine hK22 _ _ ?_
  clear hK22
  try clear K22
  refine C_seqK (fun K23 hK23 => ?_)
  refine C_if F false rfl rfl ?_
  refine wp_exit ?_
  refine hK15 _ _ ?_
  clear hK15
  try clear K15
  refine C_seqK (fun K24 hK24 => ?_)
  refine C_region ?_
  refine T_k F H (sc r.g 0 (catP ps).length r.cap) ?_
  clear F; intro a F
  refine T_k F H (sc r.g 0 (catP ps).length r.cap) ?_
  clear F; intro a F
  refine wpList_nil ?_
  refine hK24 _ _ ?_
  clear hK24
  try clear K24
  refine wp_ret ?_
  exact C_ret F H (rs := [.tmp 2]) rfl (vs := [sc r.g 0 (catP ps).length r.cap]) (.tmp rfl .nil) (sc r.g 0 (catP ps).length r.cap) rfl (made_ret H (k := 0) rfl hO)
end Go.Proofs.YtdejhenkdbjakaaDoor
