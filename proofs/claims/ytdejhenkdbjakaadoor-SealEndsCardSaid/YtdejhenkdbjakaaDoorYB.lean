/- Walks: a block's words. -/
import Derived.Test.YtdejhenkdbjakaaDoorYA
set_option linter.unusedVariables false
set_option linter.unusedSimpArgs false
namespace Go.Proofs.YtdejhenkdbjakaaDoor
open Go Go.RowKit
def qT (i : Nat) : Nat := if i % 4 = 0 then qA (i / 4) else if i % 4 = 1 then qB (i / 4) else if i % 4 = 2 then qC (i / 4) else qD (i / 4)
structure LaidS (w : World) : Prop extends Laid w where
  quarters : w.heap[2]? = some (.cells (arrF .i64 32 qT) 179 (0, 0))
  words : w.heap[3]? = some (.cells (arrF .u32 4 stW) 182 (0, 0))
theorem LaidS.keptS {w w' : World} {X : List Nat} (h : LaidS w) (k : Kept X w w') (hx : ∀ i, i < 4 → i ∉ X) : LaidS w' :=
  ⟨h.toLaid.kept k (hx 0 (by omega)) (hx 1 (by omega)), (k.block _ (heap_in h.quarters) (hx 2 (by omega))).trans h.quarters, (k.block _ (heap_in h.words) (hx 3 (by omega))).trans h.words⟩
def st4 : List Nat := [1634760805, 857760878, 2036477234, 1797285236]
theorem st4_rd : ∀ j u, (ints .u32 st4)[j]? = some u → (arrF .u32 4 stW)[0 + j]? = some u
  | 0, _, h => h | 1, _, h => h | 2, _, h => h | 3, _, h => h
  | n + 4, _, h => by
    rw [List.getElem?_eq_none (by rw [ints_len]; exact Nat.le_add_left 4 n)] at h
    cases h
theorem fP_copy (key : Nat → Nat) (ct : Nat) (nc : Nat → Nat) : ((arrF .u32 16 (fP key ct nc 0)).toList.take 0 ++ ints .u32 st4 ++ (arrF .u32 16 (fP key ct nc 0)).toList.drop (0 + (ints .u32 st4).length)).toArray = arrF .u32 16 (fP key ct nc 4) := kr

set_option maxRecDepth 100000 in
set_option maxHeartbeats 4000000 in
theorem ofLow4_any (bl : Nat → Nat) (hbl : ∀ i, bl i < 256) (ad off cp : Nat) (hcp : 4 ≤ cp) (arr : Array Value) (ty : Nat) (ha : ∀ j, j < 4 → arr[off + j]? = some (.int .u8 ((bl (off + j) : Nat) : Int))) (w : World) (hblk : w.heap[ad]? = some (.cells arr ty (0, 0))) : Calls Tryd.prog 136 #[.slice (some ⟨ad, off, none⟩) 4 cp] w fun e w' => e = .returned (.int .u64 ((loS bl off 4 : Nat) : Int)) ∧ Kept [] w w' := by
  refine C_enter Tryd.func136 rfl 26 Tryd.ntmps136 (Nat.le_of_ble_eq_true rfl) (fun a F => ?_)
  have H := Hp.start1 [] hblk
  replace F : Fm 26 [] [(0, sc ad off 4 cp)] a := F.weak _ (subL_of kr)
  refine C_seqK (fun K1 hK1 => ?_)
  refine C_region ?_
  refine T_k F H (nu 0) ?_
  clear F; intro a F
  refine wpList_nil ?_
  refine hK1 _ _ ?_
  clear hK1
  try clear K1
  refine C_seqK (fun K2 hK2 => ?_)
  refine C_region ?_
  refine T_k F H (nu 0) ?_
  clear F; intro a F
  refine wpList_nil ?_
  refine hK2 _ _ ?_
  clear hK2
  try clear K2
  refine C_seqK (fun K3 hK3 => ?_)
  refine C_seqK (fun K4 hK4 => ?_)
  refine C_region ?_
  refine T_k F H (sc ad off 4 cp) ?_
  clear F; intro a F
  refine T_k F H (sc ad off 4 cp) ?_
  clear F; intro a F
  refine T_k F H (ni 4) ?_
  clear F; intro a F
  refine T_k F H (ni 4) ?_
  clear F; intro a F
  refine T_val F H kr (sc ad off 4 cp) (fun w _ => R_slice (x := (.tmp 6)) (lo := none) (hi := (some (.tmp 9))) rfl Tryd.underlying54 (ad := some ⟨ad, off, none⟩) (len := 4) (cap := cp) kr (0) (4) rfl ⟨.i64, kr⟩ (by omega) hcp (sz := 1) kr _ slice0 w) ?_
  clear F; intro a F
  refine T_k F H (ni 4) ?_
  clear F; intro a F
  refine T_k F H (ni 0) ?_
  clear F; intro a F
  refine wpList_nil ?_
  replace F : Fm 26 [] [(12, ni 0), (11, ni 4), (3, nu 0), (10, sc ad off 4 cp)] a := F.weak _ (subL_of kr)
  refine hK4 _ _ ?_
  clear hK4
  try clear K4
  refine wp_block ?_
  refine C_loop (fun m a v => ∃ k, k + m = 4 ∧ Fm 26 [] [(12, ni k), (11, ni 4), (3, nu (loS bl off (k))), (10, sc ad off 4 cp)] a ∧ Hp [] w [br ad arr ty] v) (4) ⟨0, Nat.zero_add _, F, H⟩ ?_
  clear F H
  intro m a v ⟨k, hk, F, H⟩
  rcases m with _ | m
  rotate_left
  · skip
    have hb := hbl (off + k)
    have hh := loS_lt hbl off k
    have h256 : 256 ^ k ≤ 256 ^ 3 := Nat.pow_le_pow_right (by omega) (by omega)
    have hs := loS_step hbl off (k := k) (by omega)
    refine C_seqK (fun K5 hK5 => ?_)
    refine C_region ?_
    refine T_val F H kr (.bool true) (fun w _ => R_bin (x := (.tmp 12)) (y := (.tmp 11)) rfl (k := .i64) (a := ((k : Nat) : Int)) (b := ((4 : Nat) : Int)) kr kr (i_lt (by omega)) w) ?_
    clear F; intro a F
    refine wpList_nil ?_
    refine hK5 _ _ ?_
    clear hK5
    try clear K5
    refine C_seqK (fun K6 hK6 => ?_)
    refine C_if F true rfl rfl ?_
    refine wp_skip ?_
    refine hK6 _ _ ?_
    clear hK6
    try clear K6
    refine C_seqK (fun K7 hK7 => ?_)
    refine wp_block ?_
    refine C_seqK (fun K8 hK8 => ?_)
    refine C_region ?_
    refine T_k F H (ni k) ?_
    clear F; intro a F
    refine T_val F H kr (pt ad (off + (k) * 1)) (fun w _ => R_indexS (k := .i64) (g := ad) (off := off) (len := 4) (cap := cp) (x := (.tmp 10)) (y := (.tmp 12)) rfl Tryd.underlying54 kr (k) kr (by omega) (sz := 1) kr w) ?_
    clear F; intro a F
    refine T_val F H kr (nb (bl (off + k))) (R_cell 0 rfl 5 (.tmp 15) rfl (off + k * 1) kr (nb (bl (off + k))) ((congrArg (fun q => arr[q]?) (show off + k * 1 = off + k by omega)).trans (ha k (by omega))) _ Tryd.underlying5 rfl) ?_
    clear F; intro a F
    refine T_k F H (ni k) ?_
    clear F; intro a F
    refine T_k F H (nb (bl (off + k))) ?_
    clear F; intro a F
    refine wpList_nil ?_
    refine hK8 _ _ ?_
    clear hK8
    try clear K8
    refine C_region ?_
    refine T_k F H (nu (loS bl off (k))) ?_
    clear F; intro a F
    refine T_k F H (nb (bl (off + k))) ?_
    clear F; intro a F
    refine T_val F H kr (nu (bl (off + k))) (fun w _ => R_conv (x := (.tmp 18)) rfl (k0 := .u8) kr kr (k := .u8) (a := ((bl (off + k) : Nat) : Int)) kr (wru64 (a := bl (off + k)) (by omega)) w) ?_
    clear F; intro a F
    refine T_k F H (ni k) ?_
    clear F; intro a F
    refine T_val F H kr (ni (8 * k)) (fun w _ => R_bin (x := (.const (.int .i64 8))) (y := (.tmp 20)) rfl (k := .i64) (a := ((8 : Nat) : Int)) (b := ((k : Nat) : Int)) kr kr (i_muln64 (a := 8) (b := k) (by omega)) w) ?_
    clear F; intro a F
    refine T_val F H kr (nu (((bl (off + k)) <<< ((8 * k))) % 18446744073709551616)) (fun w _ => R_shl (x := (.tmp 19)) (y := (.tmp 21)) rfl (k := .u64) (yk := .i64) (a := ((bl (off + k) : Nat) : Int)) (b := (((8 * k) : Nat) : Int)) kr kr (Int.natCast_nonneg _) (shl64_val (by omega)) w) ?_
    clear F; intro a F
    refine T_val F H kr (nu (loS bl off (k + 1))) (fun w _ => R_bin (x := (.tmp 17)) (y := (.tmp 22)) rfl (k := .u64) (a := ((loS bl off (k) : Nat) : Int)) (b := (((((bl (off + k)) <<< ((8 * k))) % 18446744073709551616) : Nat) : Int)) kr kr ((i_or64 (a := loS bl off k) (b := ((bl (off + k)) <<< (8 * k)) % 18446744073709551616) (by omega) (Nat.mod_lt _ (by decide))).trans (congrArg (fun q : Nat => some (Value.int .u64 (q : Int))) hs)) w) ?_
    clear F; intro a F
    refine T_k F H (nu (loS bl off (k + 1))) ?_
    clear F; intro a F
    refine wpList_nil ?_
    refine hK7 _ _ ?_
    clear hK7
    try clear K7
    refine C_region ?_
    refine T_val F H kr (ni (k + 1)) (fun w _ => R_bin (x := (.tmp 12)) (y := (.const (.int .i64 1))) rfl (k := .i64) (a := ((k : Nat) : Int)) (b := ((1 : Nat) : Int)) kr kr (i_addn64 (a := k) (b := 1) (by omega)) w) ?_
    clear F; intro a F
    refine T_k F H (ni (k + 1)) ?_
    clear F; intro a F
    refine wpList_nil ?_
    replace F : Fm 26 [] [(12, ni (k + 1)), (11, ni 4), (3, nu (loS bl off (k + 1))), (10, sc ad off 4 cp)] a := F.weak _ (subL_of kr)
    replace H : Hp [] w [br ad arr ty] v := H
    exact ⟨m, Nat.lt_succ_self m, k + 1, by omega, F, H⟩
  have hkt : k = 4 := by omega
  try rw [hkt] at F
  try rw [hkt] at H
  clear hk
  refine C_seqK (fun K9 hK9 => ?_)
  refine C_region ?_
  refine T_val F H kr (.bool false) (fun w _ => R_bin (x := (.tmp 12)) (y := (.tmp 11)) rfl (k := .i64) (a := ((4 : Nat) : Int)) (b := ((4 : Nat) : Int)) kr kr (i_nlt (by omega)) w) ?_
  clear F; intro a F
  refine wpList_nil ?_
  refine hK9 _ _ ?_
  clear hK9
  try clear K9
  refine C_seqK (fun K10 hK10 => ?_)
  refine C_if F false rfl rfl ?_
  refine wp_exit ?_
  refine hK3 _ _ ?_
  clear hK3
  try clear K3
  refine C_seqK (fun K11 hK11 => ?_)
  refine C_region ?_
  refine T_k F H (nu (loS bl off (4))) ?_
  clear F; intro a F
  refine T_k F H (nu (loS bl off (4))) ?_
  clear F; intro a F
  refine wpList_nil ?_
  refine hK11 _ _ ?_
  clear hK11
  try clear K11
  refine wp_ret ?_
  exact C_ret F H (rs := [.tmp 2]) rfl (vs := [nu (loS bl off (4))]) (.tmp rfl .nil) (nu (loS bl off (4))) rfl ⟨rfl, H.kept⟩

set_option maxRecDepth 100000 in
set_option maxHeartbeats 4000000 in
theorem cwords_any (key : Nat → Nat) (hkey : ∀ i, key i < 256) (ct : Nat) (hct : ct < 4294967296) (nc : Nat → Nat) (hnc : ∀ i, nc i < 256) (w : World) (hW : LaidS w) : Calls Tryd.prog 134 #[.agg (arrF .u8 32 key), .int .u32 ((ct : Nat) : Int), .agg (arrF .u8 12 nc)] w fun e w' => e = .returned (.agg (arrF .u32 16 (fW key ct nc))) ∧ Kept [] w w' := by
  refine C_enter Tryd.func134 rfl 46 Tryd.ntmps134 (Nat.le_of_ble_eq_true rfl) (fun a F => ?_)
  have H := Hp.start1 [] hW.words
  replace F : Fm 46 [] [(0, kyV key), (1, nw ct), (2, .agg (arrF .u8 12 nc))] a := F.weak _ (subL_of kr)
  refine C_seqK (fun K1 hK1 => ?_)
  refine C_region ?_
  refine T_new F H kr (fun ad => pt ad 0) (ce (arrF .u8 32 key) 23) (fun w => kr) ?_
  clear F H; intro aq2 a v F H
  refine T_new F H kr (fun ad => pt ad 0) (ce (arrF .u8 12 nc) 121) (fun w => kr) ?_
  clear F H; intro aq3 a v F H
  refine T_new F H kr (fun ad => pt ad 0) (ce #[.int .u32 0, .int .u32 0, .int .u32 0, .int .u32 0, .int .u32 0, .int .u32 0, .int .u32 0, .int .u32 0, .int .u32 0, .int .u32 0, .int .u32 0, .int .u32 0, .int .u32 0, .int .u32 0, .int .u32 0, .int .u32 0] 176) (fun w => kr) ?_
  clear F H; intro aq4 a v F H
  refine wpList_nil ?_
  refine hK1 _ _ ?_
  clear hK1
  try clear K1
  refine C_seqK (fun K5 hK5 => ?_)
  refine C_region ?_
  refine T_new F H kr (fun ad => pt ad 0) (ce #[.int .u32 0, .int .u32 0, .int .u32 0, .int .u32 0, .int .u32 0, .int .u32 0, .int .u32 0, .int .u32 0, .int .u32 0, .int .u32 0, .int .u32 0, .int .u32 0, .int .u32 0, .int .u32 0, .int .u32 0, .int .u32 0] 176) (fun w => kr) ?_
  clear F H; intro aq6 a v F H
  refine wpList_nil ?_
  rw [show (#[.int .u32 0, .int .u32 0, .int .u32 0, .int .u32 0, .int .u32 0, .int .u32 0, .int .u32 0, .int .u32 0, .int .u32 0, .int .u32 0, .int .u32 0, .int .u32 0, .int .u32 0, .int .u32 0, .int .u32 0, .int .u32 0] : Array Value) = arrF .u32 16 (fP key ct nc 0) from kr] at H
  refine hK5 _ _ ?_
  clear hK5
  try clear K5
  refine C_seqK (fun K7 hK7 => ?_)
  refine E_region F H (fun β => [(10, sc aq6 0 16 16), (11, sc 3 0 4 4), (12, ni 4)]) [10, 11, 12] [⟨none, none, aq6, [], fun q_ => ce (arrF .u32 16 (fP key ct nc 0)) 176, gT, [⟨2, [], fun q_ => ce (arrF .u32 16 (fP key ct nc 4)) 176, gT⟩]⟩] [bk aq4 (arrF .u32 16 (fP key ct nc 0)) 176, bk aq3 (arrF .u8 12 nc) 121, bk aq2 (arrF .u8 32 key) 23, br 3 (arrF .u32 4 stW) 182] [0, 1, 2, 3, 4] 2 [] kr kr kr (fun β => rfl) ⟨fun _ _ => trivial, trivial⟩ ⟨?_, ?_, ?_, trivial⟩ ?_
  · exact E_k 46 (fun β => sc aq6 0 16 16) 10 2
  · exact E_k 46 (fun β => sc 3 0 4 4) 11 2
  · exact E_put 46 kq (fun β => ni 4) 12 rfl kq 2 (fun β r => offAt2_of kr kr) 2 [] 0 0 _ _ rfl rfl kr kr rfl (fun β w hk hl hq hm => let ⟨w', q1, q2, q3⟩ := P_copy (s := (.tmp 10)) (x := (.tmp 11)) (t := 181) (e := 53) rfl kr kr (g := aq6) (off := 0) (dLen := 16) (cap := 16) kr (xv := sc 3 0 4 4) kr (m := 4) (cs := ints .u32 st4) (RdS.of (hl.at_ (k := 3) rfl) (Nat.le_refl _) st4_rd) (by rw [ints_len]; rfl) (by omega) hm (by rw [arrF_size]; omega) (ints_one _ _) _ (fP_copy key ct nc); ⟨r0, w', q1, trivial, q2, q3⟩)
  clear F H; intro β a v Q F H
  replace H : Hp [] w [bk aq6 (arrF .u32 16 (fP key ct nc 4)) 176, bk aq4 (arrF .u32 16 (fP key ct nc 0)) 176, bk aq3 (arrF .u8 12 nc) 121, bk aq2 (arrF .u8 32 key) 23, br 3 (arrF .u32 4 stW) 182] v := H
  replace F : Fm 46 [] [(12, ni 4), (11, sc 3 0 4 4), (10, sc aq6 0 16 16), (7, pt aq6 0), (6, pt aq4 0), (5, pt aq3 0), (3, pt aq2 0), (0, kyV key), (1, nw ct), (2, .agg (arrF .u8 12 nc))] a := F.weak _ (subL_of kr)
  clear Q
  refine ?_
  refine hK7 _ _ ?_
  clear hK7
  try clear K7
  refine C_seqK (fun K8 hK8 => ?_)
  refine C_seqK (fun K9 hK9 => ?_)
  refine C_region ?_
  refine T_k F H (ni 0) ?_
  clear F; intro a F
  refine wpList_nil ?_
  replace F : Fm 46 [] [(13, ni 0), (7, pt aq6 0), (1, nw ct), (3, pt aq2 0), (5, pt aq3 0), (6, pt aq4 0)] a := F.weak _ (subL_of kr)
  replace H : Hp [] w [bk aq6 (arrF .u32 16 (fP key ct nc 4)) 176, bk aq2 (arrF .u8 32 key) 23, bk aq3 (arrF .u8 12 nc) 121, bk aq4 (arrF .u32 16 (fP key ct nc 0)) 176] v := H.pick [0, 3, 2, 1] kr _ rfl
  refine hK9 _ _ ?_
  clear hK9
  try clear K9
  refine wp_block ?_
  refine C_loop (fun m a v => ∃ k, k + m = 8 ∧ Fm 46 [] [(13, ni k), (7, pt aq6 0), (1, nw ct), (3, pt aq2 0), (5, pt aq3 0), (6, pt aq4 0)] a ∧ Hp [] w [bk aq6 (arrF .u32 16 (fP key ct nc (4 + k))) 176, bk aq2 (arrF .u8 32 key) 23, bk aq3 (arrF .u8 12 nc) 121, bk aq4 (arrF .u32 16 (fP key ct nc 0)) 176] v) (8) ⟨0, Nat.zero_add _, F, H⟩ ?_
  clear F H
  intro m a v ⟨k, hk, F, H⟩
  rcases m with _ | m
  rotate_left
  · skip
    have hlo := loS4_lt hkey (0 + 4 * k)
    refine C_seqK (fun K10 hK10 => ?_)
    refine C_region ?_
    refine T_val F H kr (.bool true) (fun w _ => R_bin (x := (.tmp 13)) (y := (.const (.int .i64 8))) rfl (k := .i64) (a := ((k : Nat) : Int)) (b := ((8 : Nat) : Int)) kr kr (i_lt (by omega)) w) ?_
    clear F; intro a F
    refine wpList_nil ?_
    refine hK10 _ _ ?_
    clear hK10
    try clear K10
    refine C_seqK (fun K11 hK11 => ?_)
    refine C_if F true rfl rfl ?_
    refine wp_skip ?_
    refine hK11 _ _ ?_
    clear hK11
    try clear K11
    refine C_seqK (fun K12 hK12 => ?_)
    refine wp_block ?_
    refine C_seqK (fun K13 hK13 => ?_)
    refine C_region ?_
    refine T_k F H (ni k) ?_
    clear F; intro a F
    refine T_k F H (ni k) ?_
    clear F; intro a F
    refine wpList_nil ?_
    refine hK13 _ _ ?_
    clear hK13
    try clear K13
    refine C_region ?_
    refine T_k F H (ni k) ?_
    clear F; intro a F
    refine T_val F H kr (ni (4 + k)) (fun w _ => R_bin (x := (.const (.int .i64 4))) (y := (.tmp 16)) rfl (k := .i64) (a := ((4 : Nat) : Int)) (b := ((k : Nat) : Int)) kr kr (i_addn64 (a := 4) (b := k) (by omega)) w) ?_
    clear F; intro a F
    refine T_k F H (ni k) ?_
    clear F; intro a F
    refine T_val F H kr (ni (4 * k)) (fun w _ => R_bin (x := (.const (.int .i64 4))) (y := (.tmp 18)) rfl (k := .i64) (a := ((4 : Nat) : Int)) (b := ((k : Nat) : Int)) kr kr (i_muln64 (a := 4) (b := k) (by omega)) w) ?_
    clear F; intro a F
    refine T_k F H (ni k) ?_
    clear F; intro a F
    refine T_val F H kr (ni (4 * k)) (fun w _ => R_bin (x := (.const (.int .i64 4))) (y := (.tmp 20)) rfl (k := .i64) (a := ((4 : Nat) : Int)) (b := ((k : Nat) : Int)) kr kr (i_muln64 (a := 4) (b := k) (by omega)) w) ?_
    clear F; intro a F
    refine T_val F H kr (ni ((4 * k) + 4)) (fun w _ => R_bin (x := (.tmp 21)) (y := (.const (.int .i64 4))) rfl (k := .i64) (a := (((4 * k) : Nat) : Int)) (b := ((4 : Nat) : Int)) kr kr (i_addn64 (a := (4 * k)) (b := 4) (by omega)) w) ?_
    clear F; intro a F
    refine T_val F H kr (sc aq2 (0 + 4 * k) 4 (32 - 4 * k)) (fun w _ => (R_sliceA (x := (.tmp 3)) (ylo := (.tmp 19)) (yhi := (.tmp 22)) rfl Tryd.underlying23 (g := aq2) (off := 0) kr (k1 := .i64) (k2 := .i64) (4 * k) (4 * k + 4) kr kr (by omega) (by omega) (by omega) kr w).trans (by rw [show 4 * k + 4 - 4 * k = 4 by omega])) ?_
    clear F; intro a F
    refine T_call F H kr 136 #[sc aq2 (0 + 4 * k) 4 (32 - 4 * k)] (nu (loS key (0 + 4 * k) 4)) (fun w => kr) (ofLow4_any key hkey _ (0 + 4 * k) (32 - 4 * k) (by omega) _ 23 (fun j hj => arrF_get key (by omega)) _ (H.at_ (k := 1) rfl)) ?_
    clear F H; intro a v F H
    refine T_val F H kr (nw (loS key (0 + 4 * k) 4)) (fun w _ => R_conv (x := (.tmp 24)) rfl (k0 := .u64) kr kr (k := .u64) (a := ((loS key (0 + 4 * k) 4 : Nat) : Int)) kr (wru32 (a := loS key (0 + 4 * k) 4) hlo) w) ?_
    clear F; intro a F
    refine T_val F H kr (pt aq6 (0 + ((4 + k)) * 1)) (fun w _ => R_index (k := .i64) (g := aq6) (off := 0) (x := (.tmp 7)) (y := (.tmp 17)) rfl Tryd.underlying176 kr ((4 + k)) kr (by omega) (sz := 1) kr w) ?_
    clear F; intro a F
    refine T_set F H kr rfl 0 rfl _ (S_cell 0 rfl 53 (.tmp 26) (.tmp 25) rfl (0 + ((4 + k)) * 1) kr (nw (loS key (0 + 4 * k) 4)) kr rfl (by rw [arrF_size]; omega) _ Tryd.underlying53 rfl kr) [bk aq6 (arrF .u32 16 (upd (fP key ct nc (4 + k)) ((4 + k)) (loS key (0 + 4 * k) 4))) 176, bk aq2 (arrF .u8 32 key) 23, bk aq3 (arrF .u8 12 nc) 121, bk aq4 (arrF .u32 16 (fP key ct nc 0)) 176] (by rw [show (0 + ((4 + k)) * 1) = (4 + k) by omega, arrF_upd _ (by omega)]; rfl) ?_
    clear F H; intro a v F H
    refine wpList_nil ?_
    rw [show loS key (0 + 4 * k) 4 = loS key (4 * k) 4 by rw [Nat.zero_add], fP_key key ct nc (by omega)] at H
    refine hK12 _ _ ?_
    clear hK12
    try clear K12
    refine C_region ?_
    refine T_val F H kr (ni (k + 1)) (fun w _ => R_bin (x := (.tmp 13)) (y := (.const (.int .i64 1))) rfl (k := .i64) (a := ((k : Nat) : Int)) (b := ((1 : Nat) : Int)) kr kr (i_addn64 (a := k) (b := 1) (by omega)) w) ?_
    clear F; intro a F
    refine T_k F H (ni (k + 1)) ?_
    clear F; intro a F
    refine wpList_nil ?_
    replace F : Fm 46 [] [(13, ni (k + 1)), (7, pt aq6 0), (1, nw ct), (3, pt aq2 0), (5, pt aq3 0), (6, pt aq4 0)] a := F.weak _ (subL_of kr)
    replace H : Hp [] w [bk aq6 (arrF .u32 16 (fP key ct nc (4 + (k + 1)))) 176, bk aq2 (arrF .u8 32 key) 23, bk aq3 (arrF .u8 12 nc) 121, bk aq4 (arrF .u32 16 (fP key ct nc 0)) 176] v := H
    exact ⟨m, Nat.lt_succ_self m, k + 1, by omega, F, H⟩
  have hkt : k = 8 := by omega
  try rw [hkt] at F
  try rw [hkt] at H
  clear hk
  refine C_seqK (fun K14 hK14 => ?_)
  refine C_region ?_
  refine T_val F H kr (.bool false) (fun w _ => R_bin (x := (.tmp 13)) (y := (.const (.int .i64 8))) rfl (k := .i64) (a := ((8 : Nat) : Int)) (b := ((8 : Nat) : Int)) kr kr (i_nlt (by omega)) w) ?_
  clear F; intro a F
  refine wpList_nil ?_
  refine hK14 _ _ ?_
  clear hK14
  try clear K14
  refine C_seqK (fun K15 hK15 => ?_)
  refine C_if F false rfl rfl ?_
  refine wp_exit ?_
  refine hK8 _ _ ?_
  clear hK8
  try clear K8
  refine C_seqK (fun K16 hK16 => ?_)
  refine C_region ?_
  refine T_k F H (nw ct) ?_
  clear F; intro a F
  refine T_k F H (pt aq6 12) ?_
  clear F; intro a F
  refine T_set F H kr rfl 0 rfl _ (S_cell 0 rfl 53 (.tmp 29) (.tmp 28) rfl 12 kr (nw ct) kr rfl (Nat.le_of_ble_eq_true rfl) _ Tryd.underlying53 rfl kr) [bk aq6 (arrF .u32 16 (upd (fP key ct nc (4 + 8)) 12 (ct))) 176, bk aq2 (arrF .u8 32 key) 23, bk aq3 (arrF .u8 12 nc) 121, bk aq4 (arrF .u32 16 (fP key ct nc 0)) 176] (by rw [arrF_upd _ (by omega)]; rfl) ?_
  clear F H; intro a v F H
  refine wpList_nil ?_
  replace H : Hp [] w [bk aq6 (arrF .u32 16 (upd (fP key ct nc 12) 12 (ct))) 176, bk aq2 (arrF .u8 32 key) 23, bk aq3 (arrF .u8 12 nc) 121, bk aq4 (arrF .u32 16 (fP key ct nc 0)) 176] v := H
  rw [fP_ct] at H
  refine hK16 _ _ ?_
  clear hK16
  try clear K16
  refine C_seqK (fun K17 hK17 => ?_)
  refine C_seqK (fun K18 hK18 => ?_)
  refine C_region ?_
  refine T_k F H (ni 0) ?_
  clear F; intro a F
  refine wpList_nil ?_
  replace F : Fm 46 [] [(30, ni 0), (7, pt aq6 0), (5, pt aq3 0), (6, pt aq4 0)] a := F.weak _ (subL_of kr)
  replace H : Hp [] w [bk aq6 (arrF .u32 16 (fP key ct nc (13 + 0))) 176, bk aq2 (arrF .u8 32 key) 23, bk aq3 (arrF .u8 12 nc) 121, bk aq4 (arrF .u32 16 (fP key ct nc 0)) 176] v := H
  refine hK18 _ _ ?_
  clear hK18
  try clear K18
  refine wp_block ?_
  refine C_loop (fun m a v => ∃ k, k + m = 3 ∧ Fm 46 [] [(30, ni k), (7, pt aq6 0), (5, pt aq3 0), (6, pt aq4 0)] a ∧ Hp [] w [bk aq6 (arrF .u32 16 (fP key ct nc (13 + k))) 176, bk aq2 (arrF .u8 32 key) 23, bk aq3 (arrF .u8 12 nc) 121, bk aq4 (arrF .u32 16 (fP key ct nc 0)) 176] v) (3) ⟨0, Nat.zero_add _, F, H⟩ ?_
  clear F H
  intro m a v ⟨k, hk, F, H⟩
  rcases m with _ | m
  rotate_left
  · skip
    have hlo := loS4_lt hnc (0 + 4 * k)
    refine C_seqK (fun K19 hK19 => ?_)
    refine C_region ?_
    refine T_val F H kr (.bool true) (fun w _ => R_bin (x := (.tmp 30)) (y := (.const (.int .i64 3))) rfl (k := .i64) (a := ((k : Nat) : Int)) (b := ((3 : Nat) : Int)) kr kr (i_lt (by omega)) w) ?_
    clear F; intro a F
    refine wpList_nil ?_
    refine hK19 _ _ ?_
    clear hK19
    try clear K19
    refine C_seqK (fun K20 hK20 => ?_)
    refine C_if F true rfl rfl ?_
    refine wp_skip ?_
    refine hK20 _ _ ?_
    clear hK20
    try clear K20
    refine C_seqK (fun K21 hK21 => ?_)
    refine wp_block ?_
    refine C_seqK (fun K22 hK22 => ?_)
    refine C_region ?_
    refine T_k F H (ni k) ?_
    clear F; intro a F
    refine T_k F H (ni k) ?_
    clear F; intro a F
    refine wpList_nil ?_
    refine hK22 _ _ ?_
    clear hK22
    try clear K22
    refine C_region ?_
    refine T_k F H (ni k) ?_
    clear F; intro a F
    refine T_val F H kr (ni (13 + k)) (fun w _ => R_bin (x := (.const (.int .i64 13))) (y := (.tmp 33)) rfl (k := .i64) (a := ((13 : Nat) : Int)) (b := ((k : Nat) : Int)) kr kr (i_addn64 (a := 13) (b := k) (by omega)) w) ?_
    clear F; intro a F
    refine T_k F H (ni k) ?_
    clear F; intro a F
    refine T_val F H kr (ni (4 * k)) (fun w _ => R_bin (x := (.const (.int .i64 4))) (y := (.tmp 35)) rfl (k := .i64) (a := ((4 : Nat) : Int)) (b := ((k : Nat) : Int)) kr kr (i_muln64 (a := 4) (b := k) (by omega)) w) ?_
    clear F; intro a F
    refine T_k F H (ni k) ?_
    clear F; intro a F
    refine T_val F H kr (ni (4 * k)) (fun w _ => R_bin (x := (.const (.int .i64 4))) (y := (.tmp 37)) rfl (k := .i64) (a := ((4 : Nat) : Int)) (b := ((k : Nat) : Int)) kr kr (i_muln64 (a := 4) (b := k) (by omega)) w) ?_
    clear F; intro a F
    refine T_val F H kr (ni ((4 * k) + 4)) (fun w _ => R_bin (x := (.tmp 38)) (y := (.const (.int .i64 4))) rfl (k := .i64) (a := (((4 * k) : Nat) : Int)) (b := ((4 : Nat) : Int)) kr kr (i_addn64 (a := (4 * k)) (b := 4) (by omega)) w) ?_
    clear F; intro a F
    refine T_val F H kr (sc aq3 (0 + 4 * k) 4 (12 - 4 * k)) (fun w _ => (R_sliceA (x := (.tmp 5)) (ylo := (.tmp 36)) (yhi := (.tmp 39)) rfl Tryd.underlying121 (g := aq3) (off := 0) kr (k1 := .i64) (k2 := .i64) (4 * k) (4 * k + 4) kr kr (by omega) (by omega) (by omega) kr w).trans (by rw [show 4 * k + 4 - 4 * k = 4 by omega])) ?_
    clear F; intro a F
    refine T_call F H kr 136 #[sc aq3 (0 + 4 * k) 4 (12 - 4 * k)] (nu (loS nc (0 + 4 * k) 4)) (fun w => kr) (ofLow4_any nc hnc _ (0 + 4 * k) (12 - 4 * k) (by omega) _ 121 (fun j hj => arrF_get nc (by omega)) _ (H.at_ (k := 2) rfl)) ?_
    clear F H; intro a v F H
    refine T_val F H kr (nw (loS nc (0 + 4 * k) 4)) (fun w _ => R_conv (x := (.tmp 41)) rfl (k0 := .u64) kr kr (k := .u64) (a := ((loS nc (0 + 4 * k) 4 : Nat) : Int)) kr (wru32 (a := loS nc (0 + 4 * k) 4) hlo) w) ?_
    clear F; intro a F
    refine T_val F H kr (pt aq6 (0 + ((13 + k)) * 1)) (fun w _ => R_index (k := .i64) (g := aq6) (off := 0) (x := (.tmp 7)) (y := (.tmp 34)) rfl Tryd.underlying176 kr ((13 + k)) kr (by omega) (sz := 1) kr w) ?_
    clear F; intro a F
    refine T_set F H kr rfl 0 rfl _ (S_cell 0 rfl 53 (.tmp 43) (.tmp 42) rfl (0 + ((13 + k)) * 1) kr (nw (loS nc (0 + 4 * k) 4)) kr rfl (by rw [arrF_size]; omega) _ Tryd.underlying53 rfl kr) [bk aq6 (arrF .u32 16 (upd (fP key ct nc (13 + k)) ((13 + k)) (loS nc (0 + 4 * k) 4))) 176, bk aq2 (arrF .u8 32 key) 23, bk aq3 (arrF .u8 12 nc) 121, bk aq4 (arrF .u32 16 (fP key ct nc 0)) 176] (by rw [show (0 + ((13 + k)) * 1) = (13 + k) by omega, arrF_upd _ (by omega)]; rfl) ?_
    clear F H; intro a v F H
    refine wpList_nil ?_
    rw [show loS nc (0 + 4 * k) 4 = loS nc (4 * k) 4 by rw [Nat.zero_add], fP_nc key ct nc (by omega)] at H
    refine hK21 _ _ ?_
    clear hK21
    try clear K21
    refine C_region ?_
    refine T_val F H kr (ni (k + 1)) (fun w _ => R_bin (x := (.tmp 30)) (y := (.const (.int .i64 1))) rfl (k := .i64) (a := ((k : Nat) : Int)) (b := ((1 : Nat) : Int)) kr kr (i_addn64 (a := k) (b := 1) (by omega)) w) ?_
    clear F; intro a F
    refine T_k F H (ni (k + 1)) ?_
    clear F; intro a F
    refine wpList_nil ?_
    replace F : Fm 46 [] [(30, ni (k + 1)), (7, pt aq6 0), (5, pt aq3 0), (6, pt aq4 0)] a := F.weak _ (subL_of kr)
    replace H : Hp [] w [bk aq6 (arrF .u32 16 (fP key ct nc (13 + (k + 1)))) 176, bk aq2 (arrF .u8 32 key) 23, bk aq3 (arrF .u8 12 nc) 121, bk aq4 (arrF .u32 16 (fP key ct nc 0)) 176] v := H
    exact ⟨m, Nat.lt_succ_self m, k + 1, by omega, F, H⟩
  have hkt : k = 3 := by omega
  try rw [hkt] at F
  try rw [hkt] at H
  clear hk
  refine C_seqK (fun K23 hK23 => ?_)
  refine C_region ?_
  refine T_val F H kr (.bool false) (fun w _ => R_bin (x := (.tmp 30)) (y := (.const (.int .i64 3))) rfl (k := .i64) (a := ((3 : Nat) : Int)) (b := ((3 : Nat) : Int)) kr kr (i_nlt (by omega)) w) ?_
  clear F; intro a F
  refine wpList_nil ?_
  refine hK23 _ _ ?_
  clear hK23
  try clear K23
  refine C_seqK (fun K24 hK24 => ?_)
  refine C_if F false rfl rfl ?_
  refine wp_exit ?_
  refine hK17 _ _ ?_
  clear hK17
  try clear K17
  refine C_seqK (fun K25 hK25 => ?_)
  replace H : Hp [] w [bk aq6 (arrF .u32 16 (fP key ct nc 16)) 176, bk aq2 (arrF .u8 32 key) 23, bk aq3 (arrF .u8 12 nc) 121, bk aq4 (arrF .u32 16 (fP key ct nc 0)) 176] v := H
  rw [fP_all] at H
  refine C_region ?_
  refine T_val F H kr (.agg (arrF .u32 16 (fW key ct nc))) (R_load (own := true) (g := aq6) (all := (arrF .u32 16 (fW key ct nc))) (t := 176) (fr := (0, 0)) 0 kr 176 (.tmp 7) rfl 0 kr (arrF .u32 16 (fW key ct nc)) (part_all _) _ Tryd.underlying176 rfl (by rw [arrF_size]; kernel_rfl)) ?_
  clear F; intro a F
  refine T_set F H kr rfl 3 rfl (arrF .u32 16 (fW key ct nc)) (S_row 3 rfl 176 (.tmp 6) (.tmp 45) rfl kr (arrF .u32 16 (fW key ct nc)) kr (by rw [arrF_size]; kernel_rfl) ((arrF_size _ _ _).trans (arrF_size _ _ _).symm) (arrF_one _ _ _)) [bk aq6 (arrF .u32 16 (fW key ct nc)) 176, bk aq2 (arrF .u8 32 key) 23, bk aq3 (arrF .u8 12 nc) 121, bk aq4 (arrF .u32 16 (fW key ct nc)) 176] rfl ?_
  clear F H; intro a v F H
  refine wpList_nil ?_
  refine hK25 _ _ ?_
  clear hK25
  try clear K25
  refine wp_ret ?_
  exact C_ret F H (rs := [.cell 6 176]) rfl (vs := [.agg (arrF .u32 16 (fW key ct nc))]) (.row 3 rfl rfl _ Tryd.underlying176 rfl kr .nil) (.agg (arrF .u32 16 (fW key ct nc))) rfl ⟨rfl, H.kept⟩
end Go.Proofs.YtdejhenkdbjakaaDoor
