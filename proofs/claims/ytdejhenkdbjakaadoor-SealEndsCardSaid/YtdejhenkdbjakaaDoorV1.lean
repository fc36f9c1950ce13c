/- Walks: the reference's bytes of numbers and keys, words turned. -/
import Derived.Test.YtdejhenkdbjakaaDoorW4
set_option linter.unusedVariables false
set_option linter.unusedSimpArgs false
namespace Go.Proofs.YtdejhenkdbjakaaDoor
open Go Go.RowKit
theorem R_build0 {P : Program} {o : Oper} {V : List (Nat × Value)} {t e : TypeId} (ho : o.op = .buildSlice t 0 #[]) (hu : P.underlying t = some (.slice e)) (hi : (P.info? e).isSome = true) (w : World) :
    (execOp (evV V) o).run P w = .ok (.value (.slice (some ⟨w.heap.size, 0, none⟩) 0 0)) (w.alloc (.cells (sl [] []) e (0, 0))) := by
  obtain ⟨ie, hie⟩ := Option.isSome_iff_exists.1 hi
  have h : (Instr.buildSlice t 0 #[]).run P w = .ok (.slice (some ⟨w.heap.size, 0, none⟩) 0 0) (w.alloc (.cells (sl [] []) e (0, 0))) := by
    simp [Instr.buildSlice, run_underlying hu, sizeOf, typeInfo, hie, newRow, Instr.fill, sl]
    rw [show Array.range 0 = (#[] : Array Nat) from by decide, Array.map_empty]
  unfold execOp
  simp only [ho, Sem.run_bind, List.map_toArray, List.map_nil, h, Result.andThen_ok, Sem.run_pure]
theorem i_quou64 {a b : Nat} (hb : 0 < b) (ha : a < 18446744073709551616) : intRes .quo .u64 a b = some (.int .u64 ((a / b : Nat) : Int)) := by
  have h0 : (b : Int) ≠ 0 := by omega
  have h1 : a / b ≤ a := Nat.div_le_self _ _
  simp only [intRes, if_neg h0]
  rw [Int.tdiv_eq_ediv_of_nonneg (by omega), ← Int.natCast_ediv]
  generalize a / b = q at *
  rw [wru64 (by omega)]
theorem i_quou32 {a b : Nat} (hb : 0 < b) (ha : a < 4294967296) : intRes .quo .u32 a b = some (.int .u32 ((a / b : Nat) : Int)) := by
  have h0 : (b : Int) ≠ 0 := by omega
  have h1 : a / b ≤ a := Nat.div_le_self _ _
  simp only [intRes, if_neg h0]
  rw [Int.tdiv_eq_ediv_of_nonneg (by omega), ← Int.natCast_ediv]
  generalize a / b = q at *
  rw [wru32 (by omega)]
theorem i_remu64 {a b : Nat} (hb : 0 < b) : intRes .rem .u64 a b = some (.int .u64 ((a % b : Nat) : Int)) := by
  have h0 : (b : Int) ≠ 0 := by omega
  simp only [intRes, if_neg h0]
  rw [Int.tmod_eq_emod_of_nonneg (by omega), ← Int.natCast_emod]
theorem lowL_next (n k : Nat) : lowL n k ++ [(n >>> (8 * k)) % 256] = lowL n (k + 1) := by
  unfold lowL; rw [List.range_succ, List.map_append]; rfl
theorem kl_next (f : Nat → Nat) (k : Nat) : (List.range k).map f ++ [f k] = (List.range (k + 1)).map f := by
  rw [List.range_succ, List.map_append]; rfl
theorem shr_next (n k : Nat) : (n >>> (8 * k)) / 256 = n >>> (8 * (k + 1)) := by
  rw [Nat.mul_add, Nat.shiftRight_add]; exact (Nat.shiftRight_eq_div_pow _ 8).symm
theorem hi_next (n sz k : Nat) (h : k < sz) : (highL n sz).take k ++ [(lowL n sz).getD (sz - 1 - k) 0] = (highL n sz).take (k + 1) := by
  rw [List.take_add_one, highL_get n sz k h, List.getD_eq_getElem?_getD, lowL_get n sz _ (by omega)]; rfl
theorem hi_all (n sz : Nat) : (highL n sz).take sz = highL n sz := List.take_of_length_le (by rw [highL_len]; exact Nat.le_refl _)
theorem lowL_at (n sz k : Nat) (h : k < sz) : (lowL n sz)[k]? = some ((lowL n sz).getD k 0) := by
  rw [List.getD_eq_getElem?_getD, lowL_get n sz k h]; rfl
theorem lowD_lt (n sz k : Nat) : (lowL n sz).getD k 0 < 256 := by
  rw [List.getD_eq_getElem?_getD]
  rcases Nat.lt_or_ge k sz with h | h
  · rw [lowL_get n sz k h]; exact Nat.mod_lt _ (by decide)
  · rw [List.getElem?_eq_none (by rw [lowL_len]; exact h)]; decide

set_option maxRecDepth 100000 in
set_option maxHeartbeats 4000000 in
theorem turn_any (x n : Nat) (hx : x < 4294967296) (h1 : 1 ≤ n) (h2 : n ≤ 31) (w : World) : Calls Tryd.prog 119 #[.int .u32 ((x : Nat) : Int), .int .i64 ((n : Nat) : Int)] w fun e w' => e = .returned (.int .u32 ((rotr x n : Nat) : Int)) ∧ Kept [] w w' := by
  refine C_enter Tryd.func119 rfl 13 Tryd.ntmps119 (Nat.le_of_ble_eq_true rfl) (fun a F => ?_)
  have H := Hp.start [] w
  replace F : Fm 13 [] [(0, nw x), (1, ni n)] a := F.weak _ (subL_of kr)
  refine C_seqK (fun K1 hK1 => ?_)
  refine C_region ?_
  refine T_k F H (nw 0) ?_
  clear F; intro a F
  refine wpList_nil ?_
  refine hK1 _ _ ?_
  clear hK1
  try clear K1
  refine C_seqK (fun K2 hK2 => ?_)
  refine E_region F H (fun β => [(5, nw x), (6, ni n), (7, nw ((x) >>> (n))), (8, nw x), (9, ni n), (10, ni (32 - n)), (11, nw (((x) <<< ((32 - n))) % 4294967296)), (12, nw (rotr x n)), (4, nw (rotr x n))]) [5, 6, 7, 8, 9, 10, 11, 12, 4] [] [] [] 2 [] kr kr kr (fun β => rfl) trivial ⟨?_, ?_, ?_, ?_, ?_, ?_, ?_, ?_, ?_, trivial⟩ ?_
  · exact E_k 13 (fun β => nw x) 5 2
  · exact E_k 13 (fun β => ni n) 6 2
  · exact E_v 13 (fun β => nw ((x) >>> (n))) 7 2 [] (fun β w hk hl hq => R_shr (x := (.tmp 5)) (y := (.tmp 6)) rfl (k := .u32) (yk := .i64) (a := ((x : Nat) : Int)) (b := ((n : Nat) : Int)) kr kr (Int.natCast_nonneg _) (shr_val (k := .u32) (by show _ ≤ 32; omega)) w)
  · exact E_k 13 (fun β => nw x) 8 2
  · exact E_k 13 (fun β => ni n) 9 2
  · exact E_v 13 (fun β => ni (32 - n)) 10 2 [] (fun β w hk hl hq => R_bin (x := (.const (.int .i64 32))) (y := (.tmp 9)) rfl (k := .i64) (a := ((32 : Nat) : Int)) (b := ((n : Nat) : Int)) kr kr (i_subn64 (a := 32) (b := n) (by omega) (by omega)) w)
  · exact E_v 13 (fun β => nw (((x) <<< ((32 - n))) % 4294967296)) 11 2 [] (fun β w hk hl hq => R_shl (x := (.tmp 8)) (y := (.tmp 10)) rfl (k := .u32) (yk := .i64) (a := ((x : Nat) : Int)) (b := (((32 - n) : Nat) : Int)) kr kr (Int.natCast_nonneg _) (shl32_val (by omega)) w)
  · exact E_v 13 (fun β => nw (rotr x n)) 12 2 [] (fun β w hk hl hq => R_bin (x := (.tmp 7)) (y := (.tmp 11)) rfl (k := .u32) (a := (((x >>> n) : Nat) : Int)) (b := ((((x <<< (32 - n)) % 4294967296) : Nat) : Int)) kr kr ((i_or32 (shr32 hx) (Nat.mod_lt _ (by decide))).trans (congrArg (fun q : Nat => some (Value.int .u32 (q : Int))) (Nat.or_comm _ _))) w)
  · exact E_k 13 (fun β => nw (rotr x n)) 4 2
  clear F H; intro β a v Q F H
  replace H : Hp [] w [] v := H
  replace F : Fm 13 [] [(4, nw (rotr x n)), (12, nw (rotr x n)), (11, nw (((x) <<< ((32 - n))) % 4294967296)), (10, ni (32 - n)), (9, ni n), (8, nw x), (7, nw ((x) >>> (n))), (6, ni n), (5, nw x), (0, nw x), (1, ni n)] a := F.weak _ (subL_of kr)
  clear Q
  refine ?_
  refine hK2 _ _ ?_
  clear hK2
  try clear K2
  refine wp_ret ?_
  exact C_ret F H (rs := [.tmp 4]) rfl (vs := [nw (rotr x n)]) (.tmp rfl .nil) (nw (rotr x n)) rfl ⟨rfl, H.kept⟩

set_option maxRecDepth 100000 in
set_option maxHeartbeats 4000000 in
theorem bytesR_any (fk : Nat → Nat) (w : World) : Calls Tryd.prog 47 #[.agg (arrF .u8 32 fk)] w (MadeS [] 5 1 32 (oct (kl fk)) w) := by
  refine C_enter Tryd.func47 rfl 16 Tryd.ntmps47 (Nat.le_of_ble_eq_true rfl) (fun a F => ?_)
  have H := Hp.start [] w
  replace F : Fm 16 [] [(0, kyV fk)] a := F.weak _ (subL_of kr)
  refine C_seqK (fun K1 hK1 => ?_)
  refine C_region ?_
  refine T_new F H kr (fun ad => pt ad 0) (ce (arrF .u8 32 fk) 23) (fun w => kr) ?_
  clear F H; intro aq2 a v F H
  refine T_k F H (.slice none 0 0) ?_
  clear F; intro a F
  refine wpList_nil ?_
  refine hK1 _ _ ?_
  clear hK1
  try clear K1
  refine C_seqK (fun K3 hK3 => ?_)
  refine C_region ?_
  refine T_k F H (.slice none 0 0) ?_
  clear F; intro a F
  refine wpList_nil ?_
  refine hK3 _ _ ?_
  clear hK3
  try clear K3
  refine C_seqK (fun K4 hK4 => ?_)
  refine C_seqK (fun K5 hK5 => ?_)
  refine C_region ?_
  refine T_k F H (ni 0) ?_
  clear F; intro a F
  refine wpList_nil ?_
  replace F : Fm 16 [] [(4, ni 0), (3, .slice none 0 0), (1, pt aq2 0)] a := F.weak _ (subL_of kr)
  refine hK5 _ _ ?_
  clear hK5
  try clear K5
  refine wp_block ?_
  refine C_loop (fun m a v => (m = 32 ∧ Fm 16 [] [(4, ni 0), (3, .slice none 0 0), (1, pt aq2 0)] a ∧ Hp [] w [bk aq2 (arrF .u8 32 fk) 23] v) ∨ (∃ (k : Nat) (r : SlR), k + m = 32 ∧ 1 ≤ k ∧ Own (oct ((List.range k).map fk)) r.rest k r.cap 1 ∧ Fm 16 [] [(4, ni k), (3, sc r.g 0 k r.cap), (1, pt aq2 0)] a ∧ Hp [] w [bk r.g (sl (oct ((List.range k).map fk)) r.rest) 5, bk aq2 (arrF .u8 32 fk) 23] v)) (32) (.inl ⟨rfl, F, H⟩) ?_
  clear F H
  intro m a v hS
  rcases hS with ⟨hk0, F, H⟩ | ⟨k, r, hk, hk1, hO, F, H⟩
  · obtain ⟨m, rfl⟩ : ∃ q, m = q + 1 := ⟨m - 1, by omega⟩
    refine C_seqK (fun K6 hK6 => ?_)
    refine C_seqK (fun K7 hK7 => ?_)
    refine C_region ?_
    refine T_k F H (ni 0) ?_
    clear F; intro a F
    refine T_val F H kr (.bool true) (fun w _ => R_bin (x := (.tmp 5)) (y := (.const (.int .i64 32))) rfl (k := .i64) (a := ((0 : Nat) : Int)) (b := ((32 : Nat) : Int)) kr kr (i_lt (by omega)) w) ?_
    clear F; intro a F
    refine wpList_nil ?_
    refine hK7 _ _ ?_
    clear hK7
    try clear K7
    refine C_if F true rfl rfl ?_
    refine wp_skip ?_
    refine hK6 _ _ ?_
    clear hK6
    try clear K6
    refine C_seqK (fun K8 hK8 => ?_)
    refine wp_block ?_
    refine C_region ?_
    refine T_k F H (.slice none 0 0) ?_
    clear F; intro a F
    refine T_k F H (ni 0) ?_
    clear F; intro a F
    refine T_k F H (pt aq2 0) ?_
    clear F; intro a F
    refine T_val F H kr (nb (fk 0)) (R_cell (own := true) (g := aq2) (all := (arrF .u8 32 fk)) (t := 23) (fr := (0, 0)) 0 kr 5 (.tmp 11) rfl 0 kr (nb (fk 0)) kr _ Tryd.underlying5 rfl) ?_
    clear F; intro a F
    refine T_new F H kr (fun ad => sc ad 0 1 1) (ce (sl (ints .u8 [fk 0]) []) 5) (fun w => R_buildS (len := 1) rfl Tryd.underlying54 ((sl (ints .u8 [fk 0]) [])) kr w) ?_
    clear F H; intro aq9 a v F H
    refine T_appN F H kr 54 5 (.tmp 9) (.tmp 13) rfl 1 1 kr kr kr (1) (ints .u8 [fk 0]) (fun w hk hl => (RdS.all (hl.at_ (k := 0) rfl) (Nat.le_refl _))) (by rw [ints_len]; first | rfl | simp [highL_len, hb_len]) (by decide) (by simp only [maxLen]; decide) (by decide) ?_
    clear F H; intro rq10 a v Qrq10 F H
    refine T_k F H (sc rq10.g 0 1 rq10.cap) ?_
    clear F; intro a F
    refine wpList_nil ?_
    have hc9 : ints .u8 [fk 0] = oct ((List.range 1).map fk) := rfl
    rw [hc9] at H Qrq10
    replace H : Hp [] w [bk rq10.g (sl (oct ((List.range 1).map fk)) rq10.rest) 5, bk aq2 (arrF .u8 32 fk) 23] v := H.pick [0, 2] kr _ rfl
    replace Qrq10 : Own (oct ((List.range 1).map fk)) rq10.rest 1 rq10.cap 1 := Qrq10
    refine hK8 _ _ ?_
    clear hK8
    try clear K8
    refine C_region ?_
    refine T_k F H (ni 0) ?_
    clear F; intro a F
    refine T_k F H (ni 1) ?_
    clear F; intro a F
    refine T_k F H (ni 1) ?_
    clear F; intro a F
    refine wpList_nil ?_
    replace F : Fm 16 [] [(4, ni 1), (3, sc rq10.g 0 1 rq10.cap), (1, pt aq2 0)] a := F.weak _ (subL_of kr)
    replace H : Hp [] w [bk rq10.g (sl (oct ((List.range 1).map fk)) rq10.rest) 5, bk aq2 (arrF .u8 32 fk) 23] v := H
    exact ⟨m, Nat.lt_succ_self m, .inr ⟨1, rq10, by omega, by omega, Qrq10, F, H⟩⟩
  rcases m with _ | m
  rotate_left
  · skip
    refine C_seqK (fun K11 hK11 => ?_)
    refine C_seqK (fun K12 hK12 => ?_)
    refine C_region ?_
    refine T_k F H (ni k) ?_
    clear F; intro a F
    refine T_val F H kr (.bool true) (fun w _ => R_bin (x := (.tmp 5)) (y := (.const (.int .i64 32))) rfl (k := .i64) (a := ((k : Nat) : Int)) (b := ((32 : Nat) : Int)) kr kr (i_lt (by omega)) w) ?_
    clear F; intro a F
    refine wpList_nil ?_
    refine hK12 _ _ ?_
    clear hK12
    try clear K12
    refine C_if F true rfl rfl ?_
    refine wp_skip ?_
    refine hK11 _ _ ?_
    clear hK11
    try clear K11
    refine C_seqK (fun K13 hK13 => ?_)
    refine wp_block ?_
    refine C_region ?_
    refine T_k F H (sc r.g 0 k r.cap) ?_
    clear F; intro a F
    refine T_k F H (ni k) ?_
    clear F; intro a F
    refine T_val F H kr (pt aq2 (0 + (k) * 1)) (fun w _ => R_index (k := .i64) (g := aq2) (off := 0) (x := (.tmp 1)) (y := (.tmp 10)) rfl Tryd.underlying23 kr (k) kr (by omega) (sz := 1) kr w) ?_
    clear F; intro a F
    refine T_val F H kr (nb (fk (k))) (R_cell (own := true) (g := aq2) (all := (arrF .u8 32 fk)) (t := 23) (fr := (0, 0)) 1 kr 5 (.tmp 11) rfl (0 + (k) * 1) kr (nb (fk (k))) ((congrArg (fun q => ((arrF .u8 32 fk))[q]?) (show (0 + (k) * 1) = k by omega)).trans (arrF_get fk (by omega))) _ Tryd.underlying5 rfl) ?_
    clear F; intro a F
    refine T_new F H kr (fun ad => sc ad 0 1 1) (ce (sl (ints .u8 [fk (k)]) []) 5) (fun w => R_buildS (len := 1) rfl Tryd.underlying54 ((sl (ints .u8 [fk (k)]) [])) kr w) ?_
    clear F H; intro aq14 a v F H
    refine T_app F H kr 54 5 (.tmp 9) (.tmp 13) rfl 1 1 kr kr 1 rfl hO kr (1) (ints .u8 [fk (k)]) (fun w hk hl => (RdS.all (hl.at_ (k := 0) rfl) (Nat.le_refl _))) (by rw [ints_len]; first | rfl | simp [highL_len, hb_len]) (ints_one _ _) (by simp only [maxLen]; omega) (by omega) _ rfl ?_
    clear F H; intro rq15 a v Qrq15 F H
    refine T_k F H (sc rq15.g 0 (k + 1) rq15.cap) ?_
    clear F; intro a F
    refine wpList_nil ?_
    have hc9 : (oct ((List.range k).map fk)) ++ (ints .u8 [fk (k)]) = oct ((List.range (k + 1)).map fk) := (ints_app .u8 _ _).symm.trans (congrArg _ (kl_next fk k))
    rw [hc9] at H Qrq15
    replace H : Hp [] w [bk rq15.g (sl (oct ((List.range (k + 1)).map fk)) rq15.rest) 5, bk aq2 (arrF .u8 32 fk) 23] v := H.pick [0, 2] kr _ rfl
    replace Qrq15 : Own (oct ((List.range (k + 1)).map fk)) rq15.rest (k + 1) rq15.cap 1 := Qrq15
    refine hK13 _ _ ?_
    clear hK13
    try clear K13
    refine C_region ?_
    refine T_k F H (ni k) ?_
    clear F; intro a F
    refine T_val F H kr (ni (k + 1)) (fun w _ => R_bin (x := (.tmp 7)) (y := (.const (.int .i64 1))) rfl (k := .i64) (a := ((k : Nat) : Int)) (b := ((1 : Nat) : Int)) kr kr (i_addn64 (a := k) (b := 1) (by omega)) w) ?_
    clear F; intro a F
    refine T_k F H (ni (k + 1)) ?_
    clear F; intro a F
    refine wpList_nil ?_
    replace F : Fm 16 [] [(4, ni (k + 1)), (3, sc rq15.g 0 (k + 1) rq15.cap), (1, pt aq2 0)] a := F.weak _ (subL_of kr)
    replace H : Hp [] w [bk rq15.g (sl (oct ((List.range (k + 1)).map fk)) rq15.rest) 5, bk aq2 (arrF .u8 32 fk) 23] v := H
    exact ⟨m, Nat.lt_succ_self m, .inr ⟨k + 1, rq15, by omega, by omega, Qrq15, F, H⟩⟩
  have hkt : k = 32 := by omega
  rw [hkt] at F H hO
  clear hk hk1
  refine C_seqK (fun K16 hK16 => ?_)
  refine C_seqK (fun K17 hK17 => ?_)
  refine C_region ?_
  refine T_k F H (ni 32) ?_
  clear F; intro a F
  refine T_val F H kr (.bool false) (fun w _ => R_bin (x := (.tmp 5)) (y := (.const (.int .i64 32))) rfl (k := .i64) (a := ((32 : Nat) : Int)) (b := ((32 : Nat) : Int)) kr kr (i_nlt (by omega)) w) ?_
  clear F; intro a F
  refine wpList_nil ?_
  refine hK17 _ _ ?_
  clear hK17
  try clear K17
  refine C_if F false rfl rfl ?_
  refine wp_exit ?_
  refine hK4 _ _ ?_
  clear hK4
  try clear K4
  refine C_seqK (fun K18 hK18 => ?_)
  refine C_region ?_
  refine T_k F H (sc r.g 0 32 r.cap) ?_
  clear F; intro a F
  refine T_k F H (sc r.g 0 32 r.cap) ?_
  clear F; intro a F
  refine wpList_nil ?_
  refine hK18 _ _ ?_
  clear hK18
  try clear K18
  refine wp_ret ?_
  exact C_ret F H (rs := [.tmp 2]) rfl (vs := [sc r.g 0 32 r.cap]) (.tmp rfl .nil) (sc r.g 0 32 r.cap) rfl (made_ret H (k := 0) rfl hO)

set_option maxRecDepth 100000 in
set_option maxHeartbeats 4000000 in
theorem lowR_any (n sz : Nat) (hn : n < 18446744073709551616) (h1 : 1 ≤ sz) (h2 : sz ≤ 8) (w : World) : Calls Tryd.prog 81 #[.int .u64 ((n : Nat) : Int), .int .i64 ((sz : Nat) : Int)] w (MadeS [] 5 1 sz (oct (lowL n sz)) w) := by
  refine C_enter Tryd.func81 rfl 24 Tryd.ntmps81 (Nat.le_of_ble_eq_true rfl) (fun a F => ?_)
  have H := Hp.start [] w
  replace F : Fm 24 [] [(0, nu n), (1, ni sz)] a := F.weak _ (subL_of kr)
  refine C_seqK (fun K1 hK1 => ?_)
  refine C_region ?_
  refine T_k F H (.slice none 0 0) ?_
  clear F; intro a F
  refine wpList_nil ?_
  refine hK1 _ _ ?_
  clear hK1
  try clear K1
  refine C_seqK (fun K2 hK2 => ?_)
  refine C_region ?_
  refine T_k F H (.slice none 0 0) ?_
  clear F; intro a F
  refine wpList_nil ?_
  refine hK2 _ _ ?_
  clear hK2
  try clear K2
  refine C_seqK (fun K3 hK3 => ?_)
  refine C_seqK (fun K4 hK4 => ?_)
  refine C_region ?_
  refine T_k F H (ni sz) ?_
  clear F; intro a F
  refine T_val F H kr (.bool false) (fun w _ => R_bin (x := (.tmp 7)) (y := (.const (.int .i64 8))) rfl (k := .i64) (a := ((sz : Nat) : Int)) (b := ((8 : Nat) : Int)) kr kr (i_ngtn (by omega)) w) ?_
  clear F; intro a F
  refine wpList_nil ?_
  refine hK4 _ _ ?_
  clear hK4
  try clear K4
  refine C_if F false rfl rfl ?_
  refine wp_skip ?_
  refine hK3 _ _ ?_
  clear hK3
  try clear K3
  refine C_seqK (fun K5 hK5 => ?_)
  refine C_seqK (fun K6 hK6 => ?_)
  refine C_region ?_
  refine T_k F H (ni 0) ?_
  clear F; intro a F
  refine wpList_nil ?_
  replace F : Fm 24 [] [(6, ni 0), (5, .slice none 0 0), (0, nu n), (1, ni sz)] a := F.weak _ (subL_of kr)
  replace F : Fm 24 [] [(6, ni 0), (5, .slice none 0 0), (0, nu (n >>> (8 * 0))), (1, ni sz)] a := F
  refine hK6 _ _ ?_
  clear hK6
  try clear K6
  refine wp_block ?_
  refine C_loop (fun m a v => (m = sz ∧ Fm 24 [] [(6, ni 0), (5, .slice none 0 0), (0, nu (n >>> (8 * 0))), (1, ni sz)] a ∧ Hp [] w [] v) ∨ (∃ (k : Nat) (r : SlR), k + m = sz ∧ 1 ≤ k ∧ Own (oct (lowL n k)) r.rest k r.cap 1 ∧ Fm 24 [] [(6, ni k), (5, sc r.g 0 k r.cap), (0, nu (n >>> (8 * k))), (1, ni sz)] a ∧ Hp [] w [bk r.g (sl (oct (lowL n k)) r.rest) 5] v)) (sz) (.inl ⟨rfl, F, H⟩) ?_
  clear F H
  intro m a v hS
  rcases hS with ⟨hk0, F, H⟩ | ⟨k, r, hk, hk1, hO, F, H⟩
  · obtain ⟨m, rfl⟩ : ∃ q, m = q + 1 := ⟨m - 1, by omega⟩
    have hsh : n >>> (8 * 0) < 18446744073709551616 := Nat.lt_of_le_of_lt (by rw [Nat.shiftRight_eq_div_pow]; exact Nat.div_le_self _ _) hn
    refine C_seqK (fun K7 hK7 => ?_)
    refine C_seqK (fun K8 hK8 => ?_)
    refine C_region ?_
    refine T_k F H (ni 0) ?_
    clear F; intro a F
    refine T_k F H (ni sz) ?_
    clear F; intro a F
    refine T_val F H kr (.bool true) (fun w _ => R_bin (x := (.tmp 10)) (y := (.tmp 11)) rfl (k := .i64) (a := ((0 : Nat) : Int)) (b := ((sz : Nat) : Int)) kr kr (i_lt (by omega)) w) ?_
    clear F; intro a F
    refine wpList_nil ?_
    refine hK8 _ _ ?_
    clear hK8
    try clear K8
    refine C_if F true rfl rfl ?_
    refine wp_skip ?_
    refine hK7 _ _ ?_
    clear hK7
    try clear K7
    refine C_seqK (fun K9 hK9 => ?_)
    refine wp_block ?_
    refine C_seqK (fun K10 hK10 => ?_)
    refine C_region ?_
    refine T_k F H (.slice none 0 0) ?_
    clear F; intro a F
    refine T_k F H (nu (n >>> (8 * 0))) ?_
    clear F; intro a F
    refine T_val F H kr (nu (n >>> (8 * 0) % 256)) (fun w _ => R_bin (x := (.tmp 16)) (y := (.const (.int .u64 256))) rfl (k := .u64) (a := ((n >>> (8 * 0) : Nat) : Int)) (b := ((256 : Nat) : Int)) kr kr (i_remu64 (by decide)) w) ?_
    clear F; intro a F
    refine T_val F H kr (nb (n >>> (8 * 0) % 256)) (fun w _ => R_conv (x := (.tmp 17)) rfl (k0 := .u64) kr kr (k := .u64) (a := (((n >>> (8 * 0) % 256) : Nat) : Int)) kr (wr8 (a := (n >>> (8 * 0) % 256)) (by omega)) w) ?_
    clear F; intro a F
    refine T_new F H kr (fun ad => sc ad 0 1 1) (ce (sl (ints .u8 [(n >>> (8 * 0) % 256)]) []) 5) (fun w => R_buildS (len := 1) rfl Tryd.underlying54 ((sl (ints .u8 [(n >>> (8 * 0) % 256)]) [])) kr w) ?_
    clear F H; intro aq11 a v F H
    refine T_appN F H kr 54 5 (.tmp 15) (.tmp 19) rfl 1 1 kr kr kr (1) (ints .u8 [(n >>> (8 * 0) % 256)]) (fun w hk hl => (RdS.all (hl.at_ (k := 0) rfl) (Nat.le_refl _))) (by rw [ints_len]; first | rfl | simp [highL_len, hb_len]) (by decide) (by simp only [maxLen]; decide) (by decide) ?_
    clear F H; intro rq12 a v Qrq12 F H
    refine T_k F H (sc rq12.g 0 1 rq12.cap) ?_
    clear F; intro a F
    refine wpList_nil ?_
    have hc9 : ints .u8 [(n >>> (8 * 0) % 256)] = oct (lowL n 1) := rfl
    rw [hc9] at H Qrq12
    replace H : Hp [] w [bk rq12.g (sl (oct (lowL n 1)) rq12.rest) 5] v := H.pick [0] kr _ rfl
    replace Qrq12 : Own (oct (lowL n 1)) rq12.rest 1 rq12.cap 1 := Qrq12
    refine hK10 _ _ ?_
    clear hK10
    try clear K10
    refine C_region ?_
    refine T_k F H (nu (n >>> (8 * 0))) ?_
    clear F; intro a F
    refine T_val F H kr (nu (n >>> (8 * 1))) (fun w _ => R_bin (x := (.tmp 21)) (y := (.const (.int .u64 256))) rfl (k := .u64) (a := ((n >>> (8 * 0) : Nat) : Int)) (b := ((256 : Nat) : Int)) kr kr ((i_quou64 (by decide) hsh).trans (congrArg (fun q : Nat => some (Value.int .u64 (q : Int))) (shr_next n 0))) w) ?_
    clear F; intro a F
    refine T_k F H (nu (n >>> (8 * 1))) ?_
    clear F; intro a F
    refine wpList_nil ?_
    refine hK9 _ _ ?_
    clear hK9
    try clear K9
    refine C_region ?_
    refine T_k F H (ni 0) ?_
    clear F; intro a F
    refine T_k F H (ni 1) ?_
    clear F; intro a F
    refine T_k F H (ni 1) ?_
    clear F; intro a F
    refine wpList_nil ?_
    replace F : Fm 24 [] [(6, ni 1), (5, sc rq12.g 0 1 rq12.cap), (0, nu (n >>> (8 * 1))), (1, ni sz)] a := F.weak _ (subL_of kr)
    replace H : Hp [] w [bk rq12.g (sl (oct (lowL n 1)) rq12.rest) 5] v := H
    exact ⟨m, Nat.lt_succ_self m, .inr ⟨1, rq12, by omega, by omega, Qrq12, F, H⟩⟩
  rcases m with _ | m
  rotate_left
  · skip
    have hsh : n >>> (8 * k) < 18446744073709551616 := Nat.lt_of_le_of_lt (by rw [Nat.shiftRight_eq_div_pow]; exact Nat.div_le_self _ _) hn
    refine C_seqK (fun K13 hK13 => ?_)
    refine C_seqK (fun K14 hK14 => ?_)
    refine C_region ?_
    refine T_k F H (ni k) ?_
    clear F; intro a F
    refine T_k F H (ni sz) ?_
    clear F; intro a F
    refine T_val F H kr (.bool true) (fun w _ => R_bin (x := (.tmp 10)) (y := (.tmp 11)) rfl (k := .i64) (a := ((k : Nat) : Int)) (b := ((sz : Nat) : Int)) kr kr (i_lt (by omega)) w) ?_
    clear F; intro a F
    refine wpList_nil ?_
    refine hK14 _ _ ?_
    clear hK14
    try clear K14
    refine C_if F true rfl rfl ?_
    refine wp_skip ?_
    refine hK13 _ _ ?_
    clear hK13
    try clear K13
    refine C_seqK (fun K15 hK15 => ?_)
    refine wp_block ?_
    refine C_seqK (fun K16 hK16 => ?_)
    refine C_region ?_
    refine T_k F H (sc r.g 0 k r.cap) ?_
    clear F; intro a F
    refine T_k F H (nu (n >>> (8 * k))) ?_
    clear F; intro a F
    refine T_val F H kr (nu (n >>> (8 * k) % 256)) (fun w _ => R_bin (x := (.tmp 16)) (y := (.const (.int .u64 256))) rfl (k := .u64) (a := ((n >>> (8 * k) : Nat) : Int)) (b := ((256 : Nat) : Int)) kr kr (i_remu64 (by decide)) w) ?_
    clear F; intro a F
    refine T_val F H kr (nb (n >>> (8 * k) % 256)) (fun w _ => R_conv (x := (.tmp 17)) rfl (k0 := .u64) kr kr (k := .u64) (a := (((n >>> (8 * k) % 256) : Nat) : Int)) kr (wr8 (a := (n >>> (8 * k) % 256)) (by omega)) w) ?_
    clear F; intro a F
    refine T_new F H kr (fun ad => sc ad 0 1 1) (ce (sl (ints .u8 [(n >>> (8 * k) % 256)]) []) 5) (fun w => R_buildS (len := 1) rfl Tryd.underlying54 ((sl (ints .u8 [(n >>> (8 * k) % 256)]) [])) kr w) ?_
    clear F H; intro aq17 a v F H
    refine T_app F H kr 54 5 (.tmp 15) (.tmp 19) rfl 1 1 kr kr 1 rfl hO kr (1) (ints .u8 [(n >>> (8 * k) % 256)]) (fun w hk hl => (RdS.all (hl.at_ (k := 0) rfl) (Nat.le_refl _))) (by rw [ints_len]; first | rfl | simp [highL_len, hb_len]) (ints_one _ _) (by simp only [maxLen]; omega) (by omega) _ rfl ?_
    clear F H; intro rq18 a v Qrq18 F H
    refine T_k F H (sc rq18.g 0 (k + 1) rq18.cap) ?_
    clear F; intro a F
    refine wpList_nil ?_
    have hc9 : (oct (lowL n k)) ++ (ints .u8 [(n >>> (8 * k) % 256)]) = oct (lowL n (k + 1)) := (ints_app .u8 _ _).symm.trans (congrArg _ (lowL_next n k))
    rw [hc9] at H Qrq18
    replace H : Hp [] w [bk rq18.g (sl (oct (lowL n (k + 1))) rq18.rest) 5] v := H.pick [0] kr _ rfl
    replace Qrq18 : Own (oct (lowL n (k + 1))) rq18.rest (k + 1) rq18.cap 1 := Qrq18
    refine hK16 _ _ ?_
    clear hK16
    try clear K16
    refine C_region ?_
    refine T_k F H (nu (n >>> (8 * k))) ?_
    clear F; intro a F
    refine T_val F H kr (nu (n >>> (8 * (k + 1)))) (fun w _ => R_bin (x := (.tmp 21)) (y := (.const (.int .u64 256))) rfl (k := .u64) (a := ((n >>> (8 * k) : Nat) : Int)) (b := ((256 : Nat) : Int)) kr kr ((i_quou64 (by decide) hsh).trans (congrArg (fun q : Nat => some (Value.int .u64 (q : Int))) (shr_next n k))) w) ?_
    clear F; intro a F
    refine T_k F H (nu (n >>> (8 * (k + 1)))) ?_
    clear F; intro a F
    refine wpList_nil ?_
    refine hK15 _ _ ?_
    clear hK15
    try clear K15
    refine C_region ?_
    refine T_k F H (ni k) ?_
    clear F; intro a F
    refine T_val F H kr (ni (k + 1)) (fun w _ => R_bin (x := (.tmp 13)) (y := (.const (.int .i64 1))) rfl (k := .i64) (a := ((k : Nat) : Int)) (b := ((1 : Nat) : Int)) kr kr (i_addn64 (a := k) (b := 1) (by omega)) w) ?_
    clear F; intro a F
    refine T_k F H (ni (k + 1)) ?_
    clear F; intro a F
    refine wpList_nil ?_
    replace F : Fm 24 [] [(6, ni (k + 1)), (5, sc rq18.g 0 (k + 1) rq18.cap), (0, nu (n >>> (8 * (k + 1)))), (1, ni sz)] a := F.weak _ (subL_of kr)
    replace H : Hp [] w [bk rq18.g (sl (oct (lowL n (k + 1))) rq18.rest) 5] v := H
    exact ⟨m, Nat.lt_succ_self m, .inr ⟨k + 1, rq18, by omega, by omega, Qrq18, F, H⟩⟩
  have hkt : k = sz := by omega
  rw [hkt] at F H hO
  clear hk hk1
  refine C_seqK (fun K19 hK19 => ?_)
  refine C_seqK (fun K20 hK20 => ?_)
  refine C_region ?_
  refine T_k F H (ni sz) ?_
  clear F; intro a F
  refine T_k F H (ni sz) ?_
  clear F; intro a F
  refine T_val F H kr (.bool false) (fun w _ => R_bin (x := (.tmp 10)) (y := (.tmp 11)) rfl (k := .i64) (a := ((sz : Nat) : Int)) (b := ((sz : Nat) : Int)) kr kr (i_nlt (by omega)) w) ?_
  clear F; intro a F
  refine wpList_nil ?_
  refine hK20 _ _ ?_
  clear hK20
  try clear K20
  refine C_if F false rfl rfl ?_
  refine wp_exit ?_
  refine hK5 _ _ ?_
  clear hK5
  try clear K5
  refine C_seqK (fun K21 hK21 => ?_)
  refine C_region ?_
  refine T_k F H (sc r.g 0 sz r.cap) ?_
  clear F; intro a F
  refine T_k F H (sc r.g 0 sz r.cap) ?_
  clear F; intro a F
  refine wpList_nil ?_
  refine hK21 _ _ ?_
  clear hK21
  try clear K21
  refine wp_ret ?_
  exact C_ret F H (rs := [.tmp 4]) rfl (vs := [sc r.g 0 sz r.cap]) (.tmp rfl .nil) (sc r.g 0 sz r.cap) rfl (made_ret H (k := 0) rfl hO)

set_option maxRecDepth 100000 in
set_option maxHeartbeats 4000000 in
theorem highR_any (n sz : Nat) (hn : n < 18446744073709551616) (h1 : 1 ≤ sz) (h2 : sz ≤ 8) (w : World) : Calls Tryd.prog 50 #[.int .u64 ((n : Nat) : Int), .int .i64 ((sz : Nat) : Int)] w (MadeS [] 5 1 sz (oct (highL n sz)) w) := by
  refine C_enter Tryd.func50 rfl 26 Tryd.ntmps50 (Nat.le_of_ble_eq_true rfl) (fun a F => ?_)
  have H := Hp.start [] w
  replace F : Fm 26 [] [(0, nu n), (1, ni sz)] a := F.weak _ (subL_of kr)
  refine C_seqK (fun K1 hK1 => ?_)
  refine C_region ?_
  refine T_k F H (.slice none 0 0) ?_
  clear F; intro a F
  refine wpList_nil ?_
  refine hK1 _ _ ?_
  clear hK1
  try clear K1
  refine C_seqK (fun K2 hK2 => ?_)
  refine C_region ?_
  refine T_k F H (nu n) ?_
  clear F; intro a F
  refine T_k F H (ni sz) ?_
  clear F; intro a F
  refine T_callX (α := SlR) F H kr 81 #[nu n, ni sz] (fun rX => sc rX.g 0 sz rX.cap) (fun rX => [bk rX.g (sl (oct (lowL n sz)) rX.rest) 5]) (fun rX => Own (oct (lowL n sz)) rX.rest (sz) rX.cap 1) (fun w => kr) (fun w H => callsX_newV H (lowR_any n sz hn h1 h2 _)) ?_
  clear F H; intro rq3 a v Qrq3 F H
  refine T_k F H (sc rq3.g 0 sz rq3.cap) ?_
  clear F; intro a F
  refine wpList_nil ?_
  refine hK2 _ _ ?_
  clear hK2
  try clear K2
  refine C_seqK (fun K4 hK4 => ?_)
  refine C_region ?_
  refine T_k F H (.slice none 0 0) ?_
  clear F; intro a F
  refine wpList_nil ?_
  refine hK4 _ _ ?_
  clear hK4
  try clear K4
  refine C_seqK (fun K5 hK5 => ?_)
  refine C_seqK (fun K6 hK6 => ?_)
  refine C_region ?_
  refine T_k F H (sc rq3.g 0 sz rq3.cap) ?_
  clear F; intro a F
  refine T_k F H (ni sz) ?_
  clear F; intro a F
  refine T_val F H kr (.int .i64 ((sz : Int) - 1 - ((0 : Nat) : Int))) (fun w _ => R_bin (x := (.tmp 12)) (y := (.const (.int .i64 1))) rfl (k := .i64) (a := ((sz : Nat) : Int)) (b := 1) kr kr (i_sub64 (by omega) (by omega)) w) ?_
  clear F; intro a F
  refine T_k F H (.int .i64 ((sz : Int) - 1 - ((0 : Nat) : Int))) ?_
  clear F; intro a F
  refine wpList_nil ?_
  replace F : Fm 26 [] [(7, .int .i64 ((sz : Int) - 1 - ((0 : Nat) : Int))), (6, .slice none 0 0), (5, sc rq3.g 0 sz rq3.cap)] a := F.weak _ (subL_of kr)
  refine hK6 _ _ ?_
  clear hK6
  try clear K6
  refine wp_block ?_
  refine C_loop (fun m a v => (m = sz ∧ Fm 26 [] [(7, .int .i64 ((sz : Int) - 1 - ((0 : Nat) : Int))), (6, .slice none 0 0), (5, sc rq3.g 0 sz rq3.cap)] a ∧ Hp [] w [bk rq3.g (sl (oct (lowL n sz)) rq3.rest) 5] v) ∨ (∃ (k : Nat) (r : SlR), k + m = sz ∧ 1 ≤ k ∧ Own (oct ((highL n sz).take k)) r.rest k r.cap 1 ∧ Fm 26 [] [(7, .int .i64 ((sz : Int) - 1 - ((k : Nat) : Int))), (6, sc r.g 0 k r.cap), (5, sc rq3.g 0 sz rq3.cap)] a ∧ Hp [] w [bk r.g (sl (oct ((highL n sz).take k)) r.rest) 5, bk rq3.g (sl (oct (lowL n sz)) rq3.rest) 5] v)) (sz) (.inl ⟨rfl, F, H⟩) ?_
  clear F H
  intro m a v hS
  rcases hS with ⟨hk0, F, H⟩ | ⟨k, r, hk, hk1, hO, F, H⟩
  · obtain ⟨m, rfl⟩ : ∃ q, m = q + 1 := ⟨m - 1, by omega⟩
    rw [show ((sz : Int) - 1 - ((0 : Nat) : Int)) = (((sz - 1 - 0) : Nat) : Int) from by omega] at F
    have hld := lowD_lt n sz (sz - 1 - 0)
    refine C_seqK (fun K7 hK7 => ?_)
    refine C_seqK (fun K8 hK8 => ?_)
    refine C_region ?_
    refine T_k F H (ni (sz - 1 - 0)) ?_
    clear F; intro a F
    refine T_val F H kr (.bool true) (fun w _ => R_bin (x := (.tmp 14)) (y := (.const (.int .i64 0))) rfl (k := .i64) (a := (((sz - 1 - 0) : Nat) : Int)) (b := ((0 : Nat) : Int)) kr kr (i_ge (by omega)) w) ?_
    clear F; intro a F
    refine wpList_nil ?_
    refine hK8 _ _ ?_
    clear hK8
    try clear K8
    refine C_if F true rfl rfl ?_
    refine wp_skip ?_
    refine hK7 _ _ ?_
    clear hK7
    try clear K7
    refine C_seqK (fun K9 hK9 => ?_)
    refine wp_block ?_
    refine C_region ?_
    refine T_k F H (.slice none 0 0) ?_
    clear F; intro a F
    refine T_k F H (sc rq3.g 0 sz rq3.cap) ?_
    clear F; intro a F
    refine T_k F H (ni (sz - 1 - 0)) ?_
    clear F; intro a F
    refine T_val F H kr (pt rq3.g (0 + ((sz - 1 - 0)) * 1)) (fun w _ => R_indexS (k := .i64) (g := rq3.g) (off := 0) (len := sz) (cap := rq3.cap) (x := (.tmp 19)) (y := (.tmp 20)) rfl Tryd.underlying54 kr ((sz - 1 - 0)) kr (by omega) (sz := 1) kr w) ?_
    clear F; intro a F
    refine T_val F H kr (nb ((lowL n sz).getD (sz - 1 - 0) 0)) (R_cell (own := true) (g := rq3.g) (all := (sl (oct (lowL n sz)) rq3.rest)) (t := 5) (fr := (0, 0)) 0 kr 5 (.tmp 21) rfl (0 + ((sz - 1 - 0)) * 1) kr (nb ((lowL n sz).getD (sz - 1 - 0) 0)) ((congrArg (fun q => ((sl (oct (lowL n sz)) rq3.rest))[q]?) (show (0 + ((sz - 1 - 0)) * 1) = (sz - 1 - 0) by omega)).trans (sl_get (ints_get (lowL_at n sz _ (by omega))))) _ Tryd.underlying5 rfl) ?_
    clear F; intro a F
    refine T_new F H kr (fun ad => sc ad 0 1 1) (ce (sl (ints .u8 [(lowL n sz).getD (sz - 1 - 0) 0]) []) 5) (fun w => R_buildS (len := 1) rfl Tryd.underlying54 ((sl (ints .u8 [(lowL n sz).getD (sz - 1 - 0) 0]) [])) kr w) ?_
    clear F H; intro aq10 a v F H
    refine T_appN F H kr 54 5 (.tmp 18) (.tmp 23) rfl 1 1 kr kr kr (1) (ints .u8 [(lowL n sz).getD (sz - 1 - 0) 0]) (fun w hk hl => (RdS.all (hl.at_ (k := 0) rfl) (Nat.le_refl _))) (by rw [ints_len]; first | rfl | simp [highL_len, hb_len]) (by decide) (by simp only [maxLen]; decide) (by decide) ?_
    clear F H; intro rq11 a v Qrq11 F H
    refine T_k F H (sc rq11.g 0 1 rq11.cap) ?_
    clear F; intro a F
    refine wpList_nil ?_
    have hc9 : ints .u8 [(lowL n sz).getD (sz - 1 - 0) 0] = oct ((highL n sz).take 1) := (congrArg _ (hi_next n sz 0 (by omega)))
    rw [hc9] at H Qrq11
    replace H : Hp [] w [bk rq11.g (sl (oct ((highL n sz).take 1)) rq11.rest) 5, bk rq3.g (sl (oct (lowL n sz)) rq3.rest) 5] v := H.pick [0, 2] kr _ rfl
    replace Qrq11 : Own (oct ((highL n sz).take 1)) rq11.rest 1 rq11.cap 1 := Qrq11
    refine hK9 _ _ ?_
    clear hK9
    try clear K9
    refine C_region ?_
    refine T_k F H (ni (sz - 1 - 0)) ?_
    clear F; intro a F
    refine T_val F H kr (.int .i64 ((sz : Int) - 1 - ((0 + 1 : Nat) : Int))) (fun w _ => R_bin (x := (.tmp 16)) (y := (.const (.int .i64 1))) rfl (k := .i64) (a := (((sz - 1 - 0) : Nat) : Int)) (b := 1) kr kr (i_sub64 (by omega) (by omega)) w) ?_
    clear F; intro a F
    refine T_k F H (.int .i64 ((sz : Int) - 1 - ((0 + 1 : Nat) : Int))) ?_
    clear F; intro a F
    refine wpList_nil ?_
    replace F : Fm 26 [] [(7, .int .i64 ((sz : Int) - 1 - ((1 : Nat) : Int))), (6, sc rq11.g 0 1 rq11.cap), (5, sc rq3.g 0 sz rq3.cap)] a := F.weak _ (subL_of kr)
    replace H : Hp [] w [bk rq11.g (sl (oct ((highL n sz).take 1)) rq11.rest) 5, bk rq3.g (sl (oct (lowL n sz)) rq3.rest) 5] v := H
    exact ⟨m, Nat.lt_succ_self m, .inr ⟨1, rq11, by omega, by omega, Qrq11, F, H⟩⟩
  rcases m with _ | m
  rotate_left
  · skip
    rw [show ((sz : Int) - 1 - ((k : Nat) : Int)) = (((sz - 1 - k) : Nat) : Int) from by omega] at F
    have hld := lowD_lt n sz (sz - 1 - k)
    refine C_seqK (fun K12 hK12 => ?_)
    refine C_seqK (fun K13 hK13 => ?_)
    refine C_region ?_
    refine T_k F H (ni (sz - 1 - k)) ?_
    clear F; intro a F
    refine T_val F H kr (.bool true) (fun w _ => R_bin (x := (.tmp 14)) (y := (.const (.int .i64 0))) rfl (k := .i64) (a := (((sz - 1 - k) : Nat) : Int)) (b := ((0 : Nat) : Int)) kr kr (i_ge (by omega)) w) ?_
    clear F; intro a F
    refine wpList_nil ?_
    refine hK13 _ _ ?_
    clear hK13
    try clear K13
    refine C_if F true rfl rfl ?_
    refine wp_skip ?_
    refine hK12 _ _ ?_
    clear hK12
    try clear K12
    refine C_seqK (fun K14 hK14 => ?_)
    refine wp_block ?_
    refine C_region ?_
    refine T_k F H (sc r.g 0 k r.cap) ?_
    clear F; intro a F
    refine T_k F H (sc rq3.g 0 sz rq3.cap) ?_
    clear F; intro a F
    refine T_k F H (ni (sz - 1 - k)) ?_
    clear F; intro a F
    refine T_val F H kr (pt rq3.g (0 + ((sz - 1 - k)) * 1)) (fun w _ => R_indexS (k := .i64) (g := rq3.g) (off := 0) (len := sz) (cap := rq3.cap) (x := (.tmp 19)) (y := (.tmp 20)) rfl Tryd.underlying54 kr ((sz - 1 - k)) kr (by omega) (sz := 1) kr w) ?_
    clear F; intro a F
    refine T_val F H kr (nb ((lowL n sz).getD (sz - 1 - k) 0)) (R_cell (own := true) (g := rq3.g) (all := (sl (oct (lowL n sz)) rq3.rest)) (t := 5) (fr := (0, 0)) 1 kr 5 (.tmp 21) rfl (0 + ((sz - 1 - k)) * 1) kr (nb ((lowL n sz).getD (sz - 1 - k) 0)) ((congrArg (fun q => ((sl (oct (lowL n sz)) rq3.rest))[q]?) (show (0 + ((sz - 1 - k)) * 1) = (sz - 1 - k) by omega)).trans (sl_get (ints_get (lowL_at n sz _ (by omega))))) _ Tryd.underlying5 rfl) ?_
    clear F; intro a F
    refine T_new F H kr (fun ad => sc ad 0 1 1) (ce (sl (ints .u8 [(lowL n sz).getD (sz - 1 - k) 0]) []) 5) (fun w => R_buildS (len := 1) rfl Tryd.underlying54 ((sl (ints .u8 [(lowL n sz).getD (sz - 1 - k) 0]) [])) kr w) ?_
    clear F H; intro aq15 a v F H
    refine T_app F H kr 54 5 (.tmp 18) (.tmp 23) rfl 1 1 kr kr 1 rfl hO kr (1) (ints .u8 [(lowL n sz).getD (sz - 1 - k) 0]) (fun w hk hl => (RdS.all (hl.at_ (k := 0) rfl) (Nat.le_refl _))) (by rw [ints_len]; first | rfl | simp [highL_len, hb_len]) (ints_one _ _) (by simp only [maxLen]; omega) (by omega) _ rfl ?_
    clear F H; intro rq16 a v Qrq16 F H
    refine T_k F H (sc rq16.g 0 (k + 1) rq16.cap) ?_
    clear F; intro a F
    refine wpList_nil ?_
    have hc9 : (oct ((highL n sz).take k)) ++ (ints .u8 [(lowL n sz).getD (sz - 1 - k) 0]) = oct ((highL n sz).take (k + 1)) := (ints_app .u8 _ _).symm.trans (congrArg _ (hi_next n sz k (by omega)))
    rw [hc9] at H Qrq16
    replace H : Hp [] w [bk rq16.g (sl (oct ((highL n sz).take (k + 1))) rq16.rest) 5, bk rq3.g (sl (oct (lowL n sz)) rq3.rest) 5] v := H.pick [0, 2] kr _ rfl
    replace Qrq16 : Own (oct ((highL n sz).take (k + 1))) rq16.rest (k + 1) rq16.cap 1 := Qrq16
    refine hK14 _ _ ?_
    clear hK14
    try clear K14
    refine C_region ?_
    refine T_k F H (ni (sz - 1 - k)) ?_
    clear F; intro a F
    refine T_val F H kr (.int .i64 ((sz : Int) - 1 - ((k + 1 : Nat) : Int))) (fun w _ => R_bin (x := (.tmp 16)) (y := (.const (.int .i64 1))) rfl (k := .i64) (a := (((sz - 1 - k) : Nat) : Int)) (b := 1) kr kr (i_sub64 (by omega) (by omega)) w) ?_
    clear F; intro a F
    refine T_k F H (.int .i64 ((sz : Int) - 1 - ((k + 1 : Nat) : Int))) ?_
    clear F; intro a F
    refine wpList_nil ?_
    replace F : Fm 26 [] [(7, .int .i64 ((sz : Int) - 1 - ((k + 1 : Nat) : Int))), (6, sc rq16.g 0 (k + 1) rq16.cap), (5, sc rq3.g 0 sz rq3.cap)] a := F.weak _ (subL_of kr)
    replace H : Hp [] w [bk rq16.g (sl (oct ((highL n sz).take (k + 1))) rq16.rest) 5, bk rq3.g (sl (oct (lowL n sz)) rq3.rest) 5] v := H
    exact ⟨m, Nat.lt_succ_self m, .inr ⟨k + 1, rq16, by omega, by omega, Qrq16, F, H⟩⟩
  have hkt : k = sz := by omega
  rw [hkt] at F H hO
  clear hk hk1
  refine C_seqK (fun K17 hK17 => ?_)
  refine C_seqK (fun K18 hK18 => ?_)
  refine C_region ?_
  refine T_k F H (.int .i64 ((sz : Int) - 1 - ((sz : Nat) : Int))) ?_
  clear F; intro a F
  refine T_val F H kr (.bool false) (fun w _ => R_bin (x := (.tmp 14)) (y := (.const (.int .i64 0))) rfl (k := .i64) (a := ((sz : Int) - 1 - ((sz : Nat) : Int))) (b := ((0 : Nat) : Int)) kr kr (i_nge (by omega)) w) ?_
  clear F; intro a F
  refine wpList_nil ?_
  refine hK18 _ _ ?_
  clear hK18
  try clear K18
  refine C_if F false rfl rfl ?_
  refine wp_exit ?_
  refine hK5 _ _ ?_
  clear hK5
  try clear K5
  refine C_seqK (fun K19 hK19 => ?_)
  refine C_region ?_
  refine T_k F H (sc r.g 0 sz r.cap) ?_
  clear F; intro a F
  refine T_k F H (sc r.g 0 sz r.cap) ?_
  clear F; intro a F
  refine wpList_nil ?_
  refine hK19 _ _ ?_
  clear hK19
  try clear K19
  rw [hi_all] at H hO
  refine wp_ret ?_
  exact C_ret F H (rs := [.tmp 4]) rfl (vs := [sc r.g 0 sz r.cap]) (.tmp rfl .nil) (sc r.g 0 sz r.cap) rfl (made_ret H (k := 0) rfl hO)
end Go.Proofs.YtdejhenkdbjakaaDoor
