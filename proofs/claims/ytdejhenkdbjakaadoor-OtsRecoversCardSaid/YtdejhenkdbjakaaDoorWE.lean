/- Walks: the chapter's examples. -/
import Derived.Test.YtdejhenkdbjakaaDoorWD
set_option linter.unusedVariables false
set_option linter.unusedSimpArgs false
namespace Go.Proofs.YtdejhenkdbjakaaDoor
open Go Go.RowKit
theorem eq_items {P : Program} {e : TypeId} {k : IntKind} (he : P.underlying e = some (.int k)) (xs ys : List Int) (d : Nat) (w : World) : ∀ (m j : Nat), xs.length = j + m → ys.length = j + m →
    (Op.eqItems (d + 1) e 1 (xs.map (Value.int k)).toArray (ys.map (Value.int k)).toArray (List.range' j m)).run P w = .ok (decide (xs.drop j = ys.drop j)) w
  | 0, j, hx, hy => by
    rw [List.drop_eq_nil_of_le (by omega), List.drop_eq_nil_of_le (by omega)]
    simp [Op.eqItems]
  | m + 1, j, hx, hy => by
    have hp : P.plainKey e = true := by simp [Program.plainKey, he]
    have p1 := run_part_plain (P := P) w hp (xs := (xs.map (Value.int k)).toArray) (off := j * 1) (v := .int k xs[j]) (by simp [show j < xs.length by omega])
    have p2 := run_part_plain (P := P) w hp (xs := (ys.map (Value.int k)).toArray) (off := j * 1) (v := .int k ys[j]) (by simp [show j < ys.length by omega])
    have ih := eq_items he xs ys d w m (j + 1) (by omega) (by omega)
    rw [List.drop_eq_getElem_cons (show j < xs.length by omega), List.drop_eq_getElem_cons (show j < ys.length by omega)]
    rw [List.range'_succ]
    simp only [Op.eqItems, Sem.run_bind, p1, p2, run_equalIn_int w d e k k _ _ he, Result.andThen_ok]
    generalize xs.drop (j + 1) = X at *
    generalize ys.drop (j + 1) = Y at *
    generalize xs[j] = a at *
    generalize ys[j] = b at *
    by_cases h : a = b
    · simp [h, ih]
    · simp [h]
theorem eq_ints {P : Program} {t e : TypeId} {n : Nat} {k : IntKind} {i : TypeInfo} (hu : P.underlying t = some (.array n e)) (he : P.underlying e = some (.int k)) (hi : P.info? e = some i) (hc : P.cellsOf e = 1) (xs ys : List Int) (hx : xs.length = n) (hy : ys.length = n) (d : Nat) (w : World) :
    (Op.equalIn (d + 2) t (.agg (xs.map (Value.int k)).toArray) (.agg (ys.map (Value.int k)).toArray)).run P w = .ok (decide (xs = ys)) w := by
  rw [run_equalIn_array w (d + 1) _ _ hu hi, hc, List.range_eq_range']
  have := eq_items (P := P) he xs ys d w n 0 (by omega) (by omega)
  simpa using this
theorem arrF_ints (k : IntKind) (n : Nat) (f : Nat → Nat) : arrF k n f = (((List.range n).map fun i => ((f i : Nat) : Int)).map (Value.int k)).toArray := by
  unfold arrF; rw [List.map_map]; rfl
set_option maxRecDepth 100000 in
theorem eqK (g h : Nat → Nat) (b : Bool) (hb : b = true ↔ ∀ i, i < 32 → g i = h i) (w : World) : (Op.equalIn 10000 23 (.agg (arrF .u8 32 g)) (.agg (arrF .u8 32 h))).run Tryd.prog w = .ok b w := by
  obtain ⟨i0, z0, hi0, _⟩ := infoB_spec (P := Tryd.prog) (e := 5) (size := 1) (bytes := 1) (by kernel_rfl)
  rw [arrF_ints, arrF_ints]
  have lg : ∀ f : Nat → Nat, ((List.range 32).map fun i => ((f i : Nat) : Int)).length = 32 := fun f => by rw [List.length_map, List.length_range]
  have ex : ((List.range 32).map fun i => ((g i : Nat) : Int)) = ((List.range 32).map fun i => ((h i : Nat) : Int)) ↔ ∀ i, i < 32 → g i = h i := by
    constructor
    · intro e i hi
      have h2 := congrArg (fun l => l[i]?) e
      simp only [List.getElem?_map, List.getElem?_range hi, Option.map_some, Option.some.injEq] at h2
      omega
    · intro e
      exact List.map_congr_left fun i hi => by rw [e i (List.mem_range.1 hi)]
  have l1 := lg g
  have l2 := lg h
  generalize ((List.range 32).map fun i => ((g i : Nat) : Int)) = xs at *
  generalize ((List.range 32).map fun i => ((h i : Nat) : Int)) = ys at *
  have hq := eq_ints (P := Tryd.prog) Tryd.underlying23 Tryd.underlying5 hi0 (by kernel_rfl) xs ys l1 l2 9998 w
  refine hq.trans ?_
  congr 1
  rw [Bool.eq_iff_iff, decide_eq_true_eq, hb, ex]
theorem R_eqK {o : Oper} {V : List (Nat × Value)} {x y : Operand} (ho : o.op = .binOp .eql 23 x y 23) (g h : Nat → Nat) (hx : evV V x = .agg (arrF .u8 32 g)) (hy : evV V y = .agg (arrF .u8 32 h)) (b : Bool) (hb : b = true ↔ ∀ i, i < 32 → g i = h i) (w : World) : (execOp (evV V) o).run Tryd.prog w = .ok (.value (.bool b)) w := by
  have he := eqK g h b hb w
  unfold execOp
  simp only [ho, hx, hy]
  have hq : (Op.equal 23 (.agg (arrF .u8 32 g)) (.agg (arrF .u8 32 h))).run Tryd.prog w = .ok b w := he
  clear hb
  simp [eqGuard, binOp, hq, Sem.run_bind, Sem.run_pure, go_sem]
theorem R_neK {o : Oper} {V : List (Nat × Value)} {x y : Operand} (ho : o.op = .binOp .neq 23 x y 23) (g h : Nat → Nat) (hx : evV V x = .agg (arrF .u8 32 g)) (hy : evV V y = .agg (arrF .u8 32 h)) (b : Bool) (hb : b = true ↔ ∀ i, i < 32 → g i = h i) (w : World) : (execOp (evV V) o).run Tryd.prog w = .ok (.value (.bool (!b))) w := by
  have he := eqK g h b hb w
  unfold execOp
  simp only [ho, hx, hy]
  have hq : (Op.equal 23 (.agg (arrF .u8 32 g)) (.agg (arrF .u8 32 h))).run Tryd.prog w = .ok b w := he
  clear hb
  simp [eqGuard, binOp, hq, Sem.run_bind, Sem.run_pure, go_sem]
theorem ffK_step (k : Nat) : upd (ffK k) k 255 = ffK (k + 1) := by
  funext j
  unfold upd ffK
  by_cases e : j = k
  · subst e; rw [if_pos rfl, if_pos (by omega)]
  · rw [if_neg e]
    by_cases h : j < k
    · rw [if_pos h, if_pos (by omega)]
    · rw [if_neg h, if_neg (by omega)]
theorem zF_lt (i : Nat) : zF i < 256 := by unfold zF; omega
theorem dA64 : (digL (ffK 32)).getD 64 0 = 0 := by decide +kernel
theorem dA65 : (digL (ffK 32)).getD 65 0 = 0 := by decide +kernel
theorem dA66 : (digL (ffK 32)).getD 66 0 = 0 := by decide +kernel
theorem dB64 : (digL zF).getD 64 0 = 3 := by decide +kernel
theorem dB65 : (digL zF).getD 65 0 = 12 := by decide +kernel
theorem dB66 : (digL zF).getD 66 0 = 0 := by decide +kernel

set_option maxRecDepth 100000 in
set_option maxHeartbeats 4000000 in
theorem awake_of (hne : ¬ ∀ i, i < 32 → (shaK (endK (oneF 2) (rcK (oneF 2) (oneF 4) (sgK (oneF 1) (oneF 2) (oneF 3))) 67)) i = (shaK (endK (oneF 2) (pbK (oneF 1) (oneF 2)) 67)) i) (w : World) (hW : Laid w) : Calls Tryd.prog 15 #[] w fun e w' => e = .returned (.bool true) ∧ Kept [] w w' := by
  obtain ⟨ky, hky⟩ : ∃ ky, ky = (shaK (endK (oneF 2) (pbK (oneF 1) (oneF 2)) 67)) := ⟨_, rfl⟩
  obtain ⟨kn, hkn⟩ : ∃ kn, kn = (shaK (endK (oneF 2) (rcK (oneF 2) (oneF 4) (sgK (oneF 1) (oneF 2) (oneF 3))) 67)) := ⟨_, rfl⟩
  have hk3 : (shaK (endK (oneF 2) (rcK (oneF 2) (oneF 3) (sgK (oneF 1) (oneF 2) (oneF 3))) 67)) = ky := by rw [hky, rc_sg _ _ _ (fun i _ => oneF_lt (by decide) i)]
  rw [← hky, ← hkn] at hne
  refine C_enter Tryd.func15 rfl 112 Tryd.ntmps15 (Nat.le_of_ble_eq_true rfl) (fun a F => ?_)
  have H := Hp.start [] w
  replace F : Fm 112 [] [] a := F.weak _ (trivial)
  refine C_seqK (fun K1 hK1 => ?_)
  refine C_region ?_
  refine T_val F H kr (.bool false) (fun _ _ => kr) ?_
  clear F; intro a F
  refine wpList_nil ?_
  refine hK1 _ _ ?_
  clear hK1
  try clear K1
  refine C_seqK (fun K2 hK2 => ?_)
  refine C_region ?_
  refine T_val F H kr (.agg (arrF .u8 32 zF)) (fun _ _ => kr) ?_
  clear F; intro a F
  refine T_new F H kr (fun ad => .pointer (some ⟨ad, 0, none⟩)) (.cells #[.int .u8 0, .int .u8 0, .int .u8 0, .int .u8 0, .int .u8 0, .int .u8 0, .int .u8 0, .int .u8 0, .int .u8 0, .int .u8 0, .int .u8 0, .int .u8 0, .int .u8 0, .int .u8 0, .int .u8 0, .int .u8 0, .int .u8 0, .int .u8 0, .int .u8 0, .int .u8 0, .int .u8 0, .int .u8 0, .int .u8 0, .int .u8 0, .int .u8 0, .int .u8 0, .int .u8 0, .int .u8 0, .int .u8 0, .int .u8 0, .int .u8 0, .int .u8 0] 23 (0, 0)) (fun w => kr) ?_
  clear F H; intro aq3 a v F H
  refine T_set F H kr rfl 0 rfl (arrF .u8 32 zF) (S_row 0 rfl 23 (.tmp 1) (.tmp 13) rfl kr (arrF .u8 32 zF) kr (by rw [arrF_size]; kernel_rfl) (by rw [arrF_size]; kernel_rfl) (arrF_one _ _ _)) [⟨true, aq3, .cells (arrF .u8 32 zF) 23 (0, 0)⟩] rfl ?_
  clear F H; intro a v F H
  refine wpList_nil ?_
  refine hK2 _ _ ?_
  clear hK2
  try clear K2
  refine C_seqK (fun K4 hK4 => ?_)
  refine C_seqK (fun K5 hK5 => ?_)
  refine C_region ?_
  refine T_val F H kr (.int .i64 ((0 : Nat) : Int)) (fun _ _ => kr) ?_
  clear F; intro a F
  refine wpList_nil ?_
  rw [show ((arrF .u8 32 zF) : Array Value) = arrF .u8 32 (ffK 0) from kr] at H
  replace F : Fm 112 [] [(2, .int .i64 ((0 : Nat) : Int)), (1, .pointer (some ⟨aq3, 0, none⟩)), (0, .bool false)] a := F.weak _ (⟨rfl, ⟨rfl, ⟨rfl, trivial⟩⟩⟩)
  refine hK5 _ _ ?_
  clear hK5
  try clear K5
  refine wp_block ?_
  refine C_loop (fun m a v => ∃ k, k + m = 32 ∧ Fm 112 [] [(2, .int .i64 ((k : Nat) : Int)), (1, .pointer (some ⟨aq3, 0, none⟩)), (0, .bool false)] a ∧ Hp [] w [⟨true, aq3, .cells (arrF .u8 32 (ffK k)) 23 (0, 0)⟩] v) (32) ⟨0, Nat.zero_add _, F, H⟩ ?_
  clear F H
  intro m a v ⟨k, hk, F, H⟩
  rcases m with _ | m
  rotate_left
  · skip
    refine C_seqK (fun K6 hK6 => ?_)
    refine C_seqK (fun K7 hK7 => ?_)
    refine C_region ?_
    refine T_val F H kr (.int .i64 ((k : Nat) : Int)) (fun _ _ => kr) ?_
    clear F; intro a F
    refine T_val F H kr (.bool true) (fun w _ => R_bin (x := (.tmp 14)) (y := (.const (.int .i64 32))) rfl (k := .i64) (a := ((k : Nat) : Int)) (b := ((32 : Nat) : Int)) kr kr (i_lt (by omega)) w) ?_
    clear F; intro a F
    refine wpList_nil ?_
    refine hK7 _ _ ?_
    clear hK7
    try clear K7
    refine C_if F true rfl rfl ?_
    refine wp_skip ?_
    refine hK6 _ _ ?_
    clear hK6
    try clear K6
    refine C_seqK (fun K8 hK8 => ?_)
    refine wp_block ?_
    refine C_region ?_
    refine T_val F H kr (.int .i64 ((k : Nat) : Int)) (fun _ _ => kr) ?_
    clear F; intro a F
    refine T_val F H kr (.pointer (some ⟨aq3, (0 + (k) * 1), none⟩)) (fun w _ => R_index (k := .i64) (g := aq3) (off := 0) (x := (.tmp 1)) (y := (.tmp 18)) rfl Tryd.underlying23 kr (k) kr (by omega) (sz := 1) kr w) ?_
    clear F; intro a F
    refine T_set F H kr rfl 0 rfl _ (S_cell 0 rfl 5 (.tmp 19) (.const (.int .u8 255)) rfl (0 + (k) * 1) kr (.int .u8 ((255 : Nat) : Int)) kr rfl (by rw [arrF_size]; omega) _ Tryd.underlying5 rfl kr) [⟨true, aq3, .cells (arrF .u8 32 (upd (ffK k) (k) (255))) 23 (0, 0)⟩] (by rw [show (0 + (k) * 1) = k by omega, arrF_upd _ (by omega)]; rfl) ?_
    clear F H; intro a v F H
    refine wpList_nil ?_
    rw [ffK_step] at H
    refine hK8 _ _ ?_
    clear hK8
    try clear K8
    refine C_region ?_
    refine T_val F H kr (.int .i64 ((k : Nat) : Int)) (fun _ _ => kr) ?_
    clear F; intro a F
    refine T_val F H kr (.int .i64 ((k + 1 : Nat) : Int)) (fun w _ => R_bin (x := (.tmp 16)) (y := (.const (.int .i64 1))) rfl (k := .i64) (a := ((k : Nat) : Int)) (b := ((1 : Nat) : Int)) kr kr (i_addn64 (a := k) (b := 1) (by omega)) w) ?_
    clear F; intro a F
    refine T_val F H kr (.int .i64 ((k + 1 : Nat) : Int)) (fun _ _ => kr) ?_
    clear F; intro a F
    refine wpList_nil ?_
    replace F : Fm 112 [] [(2, .int .i64 ((k + 1 : Nat) : Int)), (1, .pointer (some ⟨aq3, 0, none⟩)), (0, .bool false)] a := F.weak _ (⟨rfl, ⟨rfl, ⟨rfl, trivial⟩⟩⟩)
    replace H : Hp [] w [⟨true, aq3, .cells (arrF .u8 32 (ffK (k + 1))) 23 (0, 0)⟩] v := H
    exact ⟨m, Nat.lt_succ_self m, k + 1, by omega, F, H⟩
  have hkt : k = 32 := by omega
  try rw [hkt] at F
  try rw [hkt] at H
  clear hk
  refine C_seqK (fun K9 hK9 => ?_)
  refine C_seqK (fun K10 hK10 => ?_)
  refine C_region ?_
  refine T_val F H kr (.int .i64 ((32 : Nat) : Int)) (fun _ _ => kr) ?_
  clear F; intro a F
  refine T_val F H kr (.bool false) (fun w _ => R_bin (x := (.tmp 14)) (y := (.const (.int .i64 32))) rfl (k := .i64) (a := ((32 : Nat) : Int)) (b := ((32 : Nat) : Int)) kr kr (i_nlt (by omega)) w) ?_
  clear F; intro a F
  refine wpList_nil ?_
  refine hK10 _ _ ?_
  clear hK10
  try clear K10
  refine C_if F false rfl rfl ?_
  refine wp_exit ?_
  refine hK4 _ _ ?_
  clear hK4
  try clear K4
  refine C_seqK (fun K11 hK11 => ?_)
  refine C_region ?_
  refine T_val F H kr (.agg (arrF .u8 32 (ffK 32))) (R_load (own := true) (g := aq3) (all := (arrF .u8 32 (ffK 32))) (t := 23) (fr := (0, 0)) 0 kr 23 (.tmp 1) rfl 0 kr (arrF .u8 32 (ffK 32)) (part_all _) _ Tryd.underlying23 rfl (by rw [arrF_size]; kernel_rfl)) ?_
  clear F; intro a F
  refine T_callX (α := SlR) F H kr 16 #[.agg (arrF .u8 32 (ffK 32))] (fun rX => .slice (some ⟨rX.g, 0, none⟩) 67 rX.cap) (fun rX => [⟨true, rX.g, .cells (sl (ints .i64 (digL (ffK 32))) rX.rest) 3 (0, 0)⟩, ⟨true, aq3, .cells (arrF .u8 32 (ffK 32)) 23 (0, 0)⟩]) (fun rX => Own (ints .i64 (digL (ffK 32))) rX.rest 67 rX.cap 1) (fun w => kr) (fun w H => callsX_newV H (digits_any (ffK 32) (fun i _ => ffK_lt _ i) _)) ?_
  clear F H; intro rq12 a v Qrq12 F H
  refine T_val F H kr (.slice (some ⟨rq12.g, 0, none⟩) 67 rq12.cap) (fun _ _ => kr) ?_
  clear F; intro a F
  refine wpList_nil ?_
  refine hK11 _ _ ?_
  clear hK11
  try clear K11
  refine C_seqK (fun K13 hK13 => ?_)
  refine C_region ?_
  refine T_val F H kr (.agg (arrF .u8 32 zF)) (fun _ _ => kr) ?_
  clear F; intro a F
  refine T_callX (α := SlR) F H kr 16 #[.agg (arrF .u8 32 zF)] (fun rX => .slice (some ⟨rX.g, 0, none⟩) 67 rX.cap) (fun rX => [⟨true, rX.g, .cells (sl (ints .i64 (digL zF)) rX.rest) 3 (0, 0)⟩, ⟨true, rq12.g, .cells (sl (ints .i64 (digL (ffK 32))) rq12.rest) 3 (0, 0)⟩, ⟨true, aq3, .cells (arrF .u8 32 (ffK 32)) 23 (0, 0)⟩]) (fun rX => Own (ints .i64 (digL zF)) rX.rest 67 rX.cap 1) (fun w => kr) (fun w H => callsX_newV H (digits_any zF (fun i _ => zF_lt i) _)) ?_
  clear F H; intro rq14 a v Qrq14 F H
  refine T_val F H kr (.slice (some ⟨rq14.g, 0, none⟩) 67 rq14.cap) (fun _ _ => kr) ?_
  clear F; intro a F
  refine wpList_nil ?_
  replace F : Fm 112 [] [(3, .slice (some ⟨rq12.g, 0, none⟩) 67 rq12.cap), (4, .slice (some ⟨rq14.g, 0, none⟩) 67 rq14.cap), (0, .bool false)] a := F.weak _ (⟨rfl, ⟨rfl, ⟨rfl, trivial⟩⟩⟩)
  replace H : Hp [] w [⟨true, rq12.g, .cells (sl (ints .i64 (digL (ffK 32))) rq12.rest) 3 (0, 0)⟩, ⟨true, rq14.g, .cells (sl (ints .i64 (digL zF)) rq14.rest) 3 (0, 0)⟩] v := H.pick [1, 0] kr _ rfl
  refine hK13 _ _ ?_
  clear hK13
  try clear K13
  refine C_seqK (fun K15 hK15 => ?_)
  refine C_seqK (fun K16 hK16 => ?_)
  refine C_region ?_
  refine T_val F H kr (.slice (some ⟨rq12.g, 0, none⟩) 67 rq12.cap) (fun _ _ => kr) ?_
  clear F; intro a F
  refine T_val F H kr (.int .i64 ((67 : Nat) : Int)) (fun _ _ => kr) ?_
  clear F; intro a F
  refine T_val F H kr (.bool false) (fun _ _ => kr) ?_
  clear F; intro a F
  refine T_val F H kr (.bool false) (fun _ _ => kr) ?_
  clear F; intro a F
  refine T_val F H kr (.slice (some ⟨rq14.g, 0, none⟩) 67 rq14.cap) (fun _ _ => kr) ?_
  clear F; intro a F
  refine T_val F H kr (.int .i64 ((67 : Nat) : Int)) (fun _ _ => kr) ?_
  clear F; intro a F
  refine T_val F H kr (.bool false) (fun _ _ => kr) ?_
  clear F; intro a F
  refine T_val F H kr (.bool false) (fun _ _ => kr) ?_
  clear F; intro a F
  refine wpList_nil ?_
  refine hK16 _ _ ?_
  clear hK16
  try clear K16
  refine C_if F false rfl rfl ?_
  refine wp_skip ?_
  refine hK15 _ _ ?_
  clear hK15
  try clear K15
  refine C_seqK (fun K17 hK17 => ?_)
  refine C_region ?_
  refine T_callX (α := SlR) F H kr 18 #[.bool false] (fun rX => .pointer (some ⟨rX.g, 0, none⟩)) (fun rX => [⟨true, rX.g, .cells (mtr 0) 91 (0, 0)⟩, ⟨true, rq12.g, .cells (sl (ints .i64 (digL (ffK 32))) rq12.rest) 3 (0, 0)⟩, ⟨true, rq14.g, .cells (sl (ints .i64 (digL zF)) rq14.rest) 3 (0, 0)⟩]) (fun rX => True) (fun w => kr) (fun w H => callsX_newV H (newM_any _)) ?_
  clear F H; intro rq18 a v Qrq18 F H
  refine T_val F H kr (.pointer (some ⟨rq18.g, 0, none⟩)) (fun _ _ => kr) ?_
  clear F; intro a F
  refine wpList_nil ?_
  generalize rq18.g = gm at F H
  refine hK17 _ _ ?_
  clear hK17
  try clear K17
  refine C_seqK (fun K19 hK19 => ?_)
  refine C_region ?_
  refine T_val F H kr (.pointer (some ⟨gm, 0, none⟩)) (fun _ _ => kr) ?_
  clear F; intro a F
  refine T_val F H kr (.agg (arrF .u8 32 (oneF 1))) (fun _ _ => kr) ?_
  clear F; intro a F
  refine T_val F H kr (.agg (arrF .u8 32 (oneF 2))) (fun _ _ => kr) ?_
  clear F; intro a F
  refine T_callX (α := SlR) F H kr 21 #[.pointer (some ⟨gm, 0, none⟩), .agg (arrF .u8 32 (oneF 1)), .agg (arrF .u8 32 (oneF 2))] (fun rX => .pointer (some ⟨rX.g, 0, none⟩)) (fun rX => [⟨true, rX.g, .cells (sgA gm (oneF 1) (oneF 2) zF 0 0) 101 (0, 0)⟩, ⟨true, gm, .cells (mtr 0) 91 (0, 0)⟩, ⟨true, rq12.g, .cells (sl (ints .i64 (digL (ffK 32))) rq12.rest) 3 (0, 0)⟩, ⟨true, rq14.g, .cells (sl (ints .i64 (digL zF)) rq14.rest) 3 (0, 0)⟩]) (fun rX => True) (fun w => kr) (fun w H => callsX_newV H (otsnew_any gm (oneF 1) (oneF 2) _)) ?_
  clear F H; intro rq20 a v Qrq20 F H
  refine T_val F H kr (.pointer (some ⟨rq20.g, 0, none⟩)) (fun _ _ => kr) ?_
  clear F; intro a F
  refine wpList_nil ?_
  generalize rq20.g = sg at F H
  refine hK19 _ _ ?_
  clear hK19
  try clear K19
  refine C_seqK (fun K21 hK21 => ?_)
  refine C_seqK (fun K22 hK22 => ?_)
  refine C_region ?_
  refine T_val F H kr (.pointer (some ⟨sg, 0, none⟩)) (fun _ _ => kr) ?_
  clear F; intro a F
  refine T_val F H kr (.bool false) (fun _ _ => kr) ?_
  clear F; intro a F
  refine wpList_nil ?_
  refine hK22 _ _ ?_
  clear hK22
  try clear K22
  refine C_if F false rfl rfl ?_
  refine wp_skip ?_
  refine hK21 _ _ ?_
  clear hK21
  try clear K21
  refine C_seqK (fun K23 hK23 => ?_)
  refine C_region ?_
  refine T_val F H kr (.pointer (some ⟨sg, 0, none⟩)) (fun _ _ => kr) ?_
  clear F; intro a F
  refine T_val F H kr (.agg (arrF .u8 32 (oneF 3))) (fun _ _ => kr) ?_
  clear F; intro a F
  refine T_callX (α := SlR) F H kr 23 #[.pointer (some ⟨sg, 0, none⟩), .agg (arrF .u8 32 (oneF 3))] (fun rX => .slice (some ⟨rX.g, 0, none⟩) 67 rX.cap) (fun rX => [⟨true, rX.g, .cells (sl (keysC (sgK (oneF 1) (oneF 2) (oneF 3)) 67) rX.rest) 23 (0, 0)⟩, ⟨true, sg, .cells (sgA gm (oneF 1) (oneF 2) zF 0 0) 101 (0, 0)⟩, ⟨true, gm, .cells (mtr rX.n) 91 (0, 0)⟩, ⟨true, rq12.g, .cells (sl (ints .i64 (digL (ffK 32))) rq12.rest) 3 (0, 0)⟩, ⟨true, rq14.g, .cells (sl (ints .i64 (digL zF)) rq14.rest) 3 (0, 0)⟩]) (fun rX => (True) ∧ (Own (keysC (sgK (oneF 1) (oneF 2) (oneF 3)) 67) rX.rest 67 rX.cap 32)) (fun w => kr) (fun w H => callsX_bothV H (k := 1) rfl (sign_any gm 0 sg (oneF 1) (fun i _ => oneF_lt (by decide) i) (oneF 2) (fun i _ => oneF_lt (by decide) i) zF 0 0 (oneF 3) (fun i _ => oneF_lt (by decide) i) _ (hW.kept H.kept List.not_mem_nil List.not_mem_nil) (H.at_ (k := 1) rfl) (H.at_ (k := 0) rfl))) ?_
  clear F H; intro rq24 a v Qrq24 F H
  refine T_val F H kr (.slice (some ⟨rq24.g, 0, none⟩) 67 rq24.cap) (fun _ _ => kr) ?_
  clear F; intro a F
  refine wpList_nil ?_
  refine hK23 _ _ ?_
  clear hK23
  try clear K23
  refine C_seqK (fun K25 hK25 => ?_)
  refine C_region ?_
  refine T_val F H kr (.pointer (some ⟨gm, 0, none⟩)) (fun _ _ => kr) ?_
  clear F; intro a F
  refine T_val F H kr (.agg (arrF .u8 32 (oneF 2))) (fun _ _ => kr) ?_
  clear F; intro a F
  refine T_val F H kr (.agg (arrF .u8 32 (oneF 3))) (fun _ _ => kr) ?_
  clear F; intro a F
  refine T_val F H kr (.slice (some ⟨rq24.g, 0, none⟩) 67 rq24.cap) (fun _ _ => kr) ?_
  clear F; intro a F
  refine T_callX (α := SlR) F H kr 27 #[.pointer (some ⟨gm, 0, none⟩), .agg (arrF .u8 32 (oneF 2)), .agg (arrF .u8 32 (oneF 3)), .slice (some ⟨rq24.g, 0, none⟩) 67 rq24.cap] (fun rX => .tuple #[.agg (arrF .u8 32 ky), .int .i64 ((0 : Nat) : Int)]) (fun rX => [⟨true, rq24.g, .cells (sl (keysC (sgK (oneF 1) (oneF 2) (oneF 3)) 67) rq24.rest) 23 (0, 0)⟩, ⟨true, sg, .cells (sgA gm (oneF 1) (oneF 2) zF 0 0) 101 (0, 0)⟩, ⟨true, gm, .cells (mtr rX.n) 91 (0, 0)⟩, ⟨true, rq12.g, .cells (sl (ints .i64 (digL (ffK 32))) rq12.rest) 3 (0, 0)⟩, ⟨true, rq14.g, .cells (sl (ints .i64 (digL zF)) rq14.rest) 3 (0, 0)⟩]) (fun rX => True) (fun w => kr) (fun w H => callsX_putV H (k := 2) rfl ((recover_any gm rq24.n (oneF 2) (fun i _ => oneF_lt (by decide) i) (oneF 3) (fun i _ => oneF_lt (by decide) i) (sgK (oneF 1) (oneF 2) (oneF 3)) (sgK_lt _ _ _) rq24.g _ _ _ (hW.kept H.kept List.not_mem_nil List.not_mem_nil) (H.at_ (k := 2) rfl) (H.at_ (k := 0) rfl)).mono (fun _ _ ⟨r, q1, q2⟩ => ⟨r, by rw [q1, hk3]; rfl, q2⟩))) ?_
  clear F H; intro rq26 a v Qrq26 F H
  refine T_val F H kr (.tuple #[.agg (arrF .u8 32 ky), .int .i64 ((0 : Nat) : Int)]) (fun _ _ => kr) ?_
  clear F; intro a F
  refine T_val F H kr (.agg (arrF .u8 32 ky)) (fun _ _ => kr) ?_
  clear F; intro a F
  refine T_val F H kr (.int .i64 ((0 : Nat) : Int)) (fun _ _ => kr) ?_
  clear F; intro a F
  refine T_new F H kr (fun ad => .pointer (some ⟨ad, 0, none⟩)) (.cells #[.int .u8 0, .int .u8 0, .int .u8 0, .int .u8 0, .int .u8 0, .int .u8 0, .int .u8 0, .int .u8 0, .int .u8 0, .int .u8 0, .int .u8 0, .int .u8 0, .int .u8 0, .int .u8 0, .int .u8 0, .int .u8 0, .int .u8 0, .int .u8 0, .int .u8 0, .int .u8 0, .int .u8 0, .int .u8 0, .int .u8 0, .int .u8 0, .int .u8 0, .int .u8 0, .int .u8 0, .int .u8 0, .int .u8 0, .int .u8 0, .int .u8 0, .int .u8 0] 23 (0, 0)) (fun w => kr) ?_
  clear F H; intro aq27 a v F H
  refine T_set F H kr rfl 0 rfl (arrF .u8 32 ky) (S_row 0 rfl 23 (.tmp 8) (.tmp 48) rfl kr (arrF .u8 32 ky) kr (by rw [arrF_size]; kernel_rfl) (by rw [arrF_size]; kernel_rfl) (arrF_one _ _ _)) [⟨true, aq27, .cells (arrF .u8 32 ky) 23 (0, 0)⟩, ⟨true, rq24.g, .cells (sl (keysC (sgK (oneF 1) (oneF 2) (oneF 3)) 67) rq24.rest) 23 (0, 0)⟩, ⟨true, sg, .cells (sgA gm (oneF 1) (oneF 2) zF 0 0) 101 (0, 0)⟩, ⟨true, gm, .cells (mtr rq26.n) 91 (0, 0)⟩, ⟨true, rq12.g, .cells (sl (ints .i64 (digL (ffK 32))) rq12.rest) 3 (0, 0)⟩, ⟨true, rq14.g, .cells (sl (ints .i64 (digL zF)) rq14.rest) 3 (0, 0)⟩] rfl ?_
  clear F H; intro a v F H
  refine T_val F H kr (.int .i64 ((0 : Nat) : Int)) (fun _ _ => kr) ?_
  clear F; intro a F
  refine wpList_nil ?_
  refine hK25 _ _ ?_
  clear hK25
  try clear K25
  refine C_seqK (fun K28 hK28 => ?_)
  refine C_region ?_
  refine T_val F H kr (.pointer (some ⟨gm, 0, none⟩)) (fun _ _ => kr) ?_
  clear F; intro a F
  refine T_val F H kr (.agg (arrF .u8 32 (oneF 2))) (fun _ _ => kr) ?_
  clear F; intro a F
  refine T_val F H kr (.agg (arrF .u8 32 (oneF 4))) (fun _ _ => kr) ?_
  clear F; intro a F
  refine T_val F H kr (.slice (some ⟨rq24.g, 0, none⟩) 67 rq24.cap) (fun _ _ => kr) ?_
  clear F; intro a F
  refine T_callX (α := SlR) F H kr 27 #[.pointer (some ⟨gm, 0, none⟩), .agg (arrF .u8 32 (oneF 2)), .agg (arrF .u8 32 (oneF 4)), .slice (some ⟨rq24.g, 0, none⟩) 67 rq24.cap] (fun rX => .tuple #[.agg (arrF .u8 32 kn), .int .i64 ((0 : Nat) : Int)]) (fun rX => [⟨true, aq27, .cells (arrF .u8 32 ky) 23 (0, 0)⟩, ⟨true, rq24.g, .cells (sl (keysC (sgK (oneF 1) (oneF 2) (oneF 3)) 67) rq24.rest) 23 (0, 0)⟩, ⟨true, sg, .cells (sgA gm (oneF 1) (oneF 2) zF 0 0) 101 (0, 0)⟩, ⟨true, gm, .cells (mtr rX.n) 91 (0, 0)⟩, ⟨true, rq12.g, .cells (sl (ints .i64 (digL (ffK 32))) rq12.rest) 3 (0, 0)⟩, ⟨true, rq14.g, .cells (sl (ints .i64 (digL zF)) rq14.rest) 3 (0, 0)⟩]) (fun rX => True) (fun w => kr) (fun w H => callsX_putV H (k := 3) rfl ((recover_any gm rq26.n (oneF 2) (fun i _ => oneF_lt (by decide) i) (oneF 4) (fun i _ => oneF_lt (by decide) i) (sgK (oneF 1) (oneF 2) (oneF 3)) (sgK_lt _ _ _) rq24.g _ _ _ (hW.kept H.kept List.not_mem_nil List.not_mem_nil) (H.at_ (k := 3) rfl) (H.at_ (k := 1) rfl)).mono (fun _ _ ⟨r, q1, q2⟩ => ⟨r, by rw [q1, ← hkn]; rfl, q2⟩))) ?_
  clear F H; intro rq29 a v Qrq29 F H
  refine T_val F H kr (.tuple #[.agg (arrF .u8 32 kn), .int .i64 ((0 : Nat) : Int)]) (fun _ _ => kr) ?_
  clear F; intro a F
  refine T_val F H kr (.agg (arrF .u8 32 kn)) (fun _ _ => kr) ?_
  clear F; intro a F
  refine T_val F H kr (.int .i64 ((0 : Nat) : Int)) (fun _ _ => kr) ?_
  clear F; intro a F
  refine T_new F H kr (fun ad => .pointer (some ⟨ad, 0, none⟩)) (.cells #[.int .u8 0, .int .u8 0, .int .u8 0, .int .u8 0, .int .u8 0, .int .u8 0, .int .u8 0, .int .u8 0, .int .u8 0, .int .u8 0, .int .u8 0, .int .u8 0, .int .u8 0, .int .u8 0, .int .u8 0, .int .u8 0, .int .u8 0, .int .u8 0, .int .u8 0, .int .u8 0, .int .u8 0, .int .u8 0, .int .u8 0, .int .u8 0, .int .u8 0, .int .u8 0, .int .u8 0, .int .u8 0, .int .u8 0, .int .u8 0, .int .u8 0, .int .u8 0] 23 (0, 0)) (fun w => kr) ?_
  clear F H; intro aq30 a v F H
  refine T_set F H kr rfl 0 rfl (arrF .u8 32 kn) (S_row 0 rfl 23 (.tmp 10) (.tmp 56) rfl kr (arrF .u8 32 kn) kr (by rw [arrF_size]; kernel_rfl) (by rw [arrF_size]; kernel_rfl) (arrF_one _ _ _)) [⟨true, aq30, .cells (arrF .u8 32 kn) 23 (0, 0)⟩, ⟨true, aq27, .cells (arrF .u8 32 ky) 23 (0, 0)⟩, ⟨true, rq24.g, .cells (sl (keysC (sgK (oneF 1) (oneF 2) (oneF 3)) 67) rq24.rest) 23 (0, 0)⟩, ⟨true, sg, .cells (sgA gm (oneF 1) (oneF 2) zF 0 0) 101 (0, 0)⟩, ⟨true, gm, .cells (mtr rq29.n) 91 (0, 0)⟩, ⟨true, rq12.g, .cells (sl (ints .i64 (digL (ffK 32))) rq12.rest) 3 (0, 0)⟩, ⟨true, rq14.g, .cells (sl (ints .i64 (digL zF)) rq14.rest) 3 (0, 0)⟩] rfl ?_
  clear F H; intro a v F H
  refine T_val F H kr (.int .i64 ((0 : Nat) : Int)) (fun _ _ => kr) ?_
  clear F; intro a F
  refine wpList_nil ?_
  refine hK28 _ _ ?_
  clear hK28
  try clear K28
  refine C_seqK (fun K31 hK31 => ?_)
  refine C_region ?_
  refine T_val F H kr (.pointer (some ⟨sg, 0, none⟩)) (fun _ _ => kr) ?_
  clear F; intro a F
  refine T_callX (α := SlR) F H kr 22 #[.pointer (some ⟨sg, 0, none⟩)] (fun rX => .agg (arrF .u8 32 ky)) (fun rX => [⟨true, aq30, .cells (arrF .u8 32 kn) 23 (0, 0)⟩, ⟨true, aq27, .cells (arrF .u8 32 ky) 23 (0, 0)⟩, ⟨true, rq24.g, .cells (sl (keysC (sgK (oneF 1) (oneF 2) (oneF 3)) 67) rq24.rest) 23 (0, 0)⟩, ⟨true, sg, .cells (sgA gm (oneF 1) (oneF 2) ky 1 0) 101 (0, 0)⟩, ⟨true, gm, .cells (mtr rX.n) 91 (0, 0)⟩, ⟨true, rq12.g, .cells (sl (ints .i64 (digL (ffK 32))) rq12.rest) 3 (0, 0)⟩, ⟨true, rq14.g, .cells (sl (ints .i64 (digL zF)) rq14.rest) 3 (0, 0)⟩]) (fun rX => True) (fun w => kr) (fun w H => callsX_put2 H (k := 4) (k2 := 3) rfl rfl (by decide) (pubP_first gm rq29.n sg (oneF 1) (fun i _ => oneF_lt (by decide) i) (oneF 2) (fun i _ => oneF_lt (by decide) i) ky hky.symm zF _ (hW.kept H.kept List.not_mem_nil List.not_mem_nil) (H.at_ (k := 4) rfl) (H.at_ (k := 3) rfl))) ?_
  clear F H; intro rq32 a v Qrq32 F H
  refine T_new F H kr (fun ad => .pointer (some ⟨ad, 0, none⟩)) (.cells #[.int .u8 0, .int .u8 0, .int .u8 0, .int .u8 0, .int .u8 0, .int .u8 0, .int .u8 0, .int .u8 0, .int .u8 0, .int .u8 0, .int .u8 0, .int .u8 0, .int .u8 0, .int .u8 0, .int .u8 0, .int .u8 0, .int .u8 0, .int .u8 0, .int .u8 0, .int .u8 0, .int .u8 0, .int .u8 0, .int .u8 0, .int .u8 0, .int .u8 0, .int .u8 0, .int .u8 0, .int .u8 0, .int .u8 0, .int .u8 0, .int .u8 0, .int .u8 0] 23 (0, 0)) (fun w => kr) ?_
  clear F H; intro aq33 a v F H
  refine T_set F H kr rfl 0 rfl (arrF .u8 32 ky) (S_row 0 rfl 23 (.tmp 12) (.tmp 59) rfl kr (arrF .u8 32 ky) kr (by rw [arrF_size]; kernel_rfl) (by rw [arrF_size]; kernel_rfl) (arrF_one _ _ _)) [⟨true, aq33, .cells (arrF .u8 32 ky) 23 (0, 0)⟩, ⟨true, aq30, .cells (arrF .u8 32 kn) 23 (0, 0)⟩, ⟨true, aq27, .cells (arrF .u8 32 ky) 23 (0, 0)⟩, ⟨true, rq24.g, .cells (sl (keysC (sgK (oneF 1) (oneF 2) (oneF 3)) 67) rq24.rest) 23 (0, 0)⟩, ⟨true, sg, .cells (sgA gm (oneF 1) (oneF 2) ky 1 0) 101 (0, 0)⟩, ⟨true, gm, .cells (mtr rq32.n) 91 (0, 0)⟩, ⟨true, rq12.g, .cells (sl (ints .i64 (digL (ffK 32))) rq12.rest) 3 (0, 0)⟩, ⟨true, rq14.g, .cells (sl (ints .i64 (digL zF)) rq14.rest) 3 (0, 0)⟩] rfl ?_
  clear F H; intro a v F H
  refine wpList_nil ?_
  refine hK31 _ _ ?_
  clear hK31
  try clear K31
  refine C_seqK (fun K34 hK34 => ?_)
  refine C_region ?_
  refine T_val F H kr (.slice (some ⟨rq12.g, 0, none⟩) 67 rq12.cap) (fun _ _ => kr) ?_
  clear F; intro a F
  refine T_val F H kr (.pointer (some ⟨rq12.g, (0 + (64) * 1), none⟩)) (fun w _ => R_indexS (k := .i64) (g := rq12.g) (off := 0) (len := 67) (cap := rq12.cap) (x := (.tmp 60)) (y := (.const (.int .i64 64))) rfl Tryd.underlying25 kr (64) kr (by omega) (sz := 1) kr w) ?_
  clear F; intro a F
  refine T_val F H kr (.int .i64 (((digL (ffK 32)).getD 64 0 : Nat) : Int)) (R_cell (own := true) (g := rq12.g) (all := (sl (ints .i64 (digL (ffK 32))) rq12.rest)) (t := 3) (fr := (0, 0)) 6 kr 3 (.tmp 61) rfl (0 + (64) * 1) kr (.int .i64 (((digL (ffK 32)).getD 64 0 : Nat) : Int)) ((congrArg (fun q => ((sl (ints .i64 (digL (ffK 32))) rq12.rest))[q]?) (show (0 + (64) * 1) = 64 by omega)).trans (sl_get (ints_get (digD_get (ffK 32) (by omega))))) _ Tryd.underlying3 rfl) ?_
  clear F; intro a F
  refine T_val F H kr (.bool true) (fun w _ => R_bin (x := (.tmp 62)) (y := (.const (.int .i64 0))) rfl (k := .i64) (a := (((digL (ffK 32)).getD 64 0 : Nat) : Int)) (b := ((0 : Nat) : Int)) kr kr (i_eq (congrArg (fun q : Nat => (q : Int)) dA64)) w) ?_
  clear F; intro a F
  refine T_val F H kr (.bool true) (fun _ _ => kr) ?_
  clear F; intro a F
  refine T_val F H kr (.slice (some ⟨rq12.g, 0, none⟩) 67 rq12.cap) (fun _ _ => kr) ?_
  clear F; intro a F
  refine T_val F H kr (.pointer (some ⟨rq12.g, (0 + (65) * 1), none⟩)) (fun w _ => R_indexS (k := .i64) (g := rq12.g) (off := 0) (len := 67) (cap := rq12.cap) (x := (.tmp 65)) (y := (.const (.int .i64 65))) rfl Tryd.underlying25 kr (65) kr (by omega) (sz := 1) kr w) ?_
  clear F; intro a F
  refine T_val F H kr (.int .i64 (((digL (ffK 32)).getD 65 0 : Nat) : Int)) (R_cell (own := true) (g := rq12.g) (all := (sl (ints .i64 (digL (ffK 32))) rq12.rest)) (t := 3) (fr := (0, 0)) 6 kr 3 (.tmp 66) rfl (0 + (65) * 1) kr (.int .i64 (((digL (ffK 32)).getD 65 0 : Nat) : Int)) ((congrArg (fun q => ((sl (ints .i64 (digL (ffK 32))) rq12.rest))[q]?) (show (0 + (65) * 1) = 65 by omega)).trans (sl_get (ints_get (digD_get (ffK 32) (by omega))))) _ Tryd.underlying3 rfl) ?_
  clear F; intro a F
  refine T_val F H kr (.bool true) (fun w _ => R_bin (x := (.tmp 67)) (y := (.const (.int .i64 0))) rfl (k := .i64) (a := (((digL (ffK 32)).getD 65 0 : Nat) : Int)) (b := ((0 : Nat) : Int)) kr kr (i_eq (congrArg (fun q : Nat => (q : Int)) dA65)) w) ?_
  clear F; intro a F
  refine T_val F H kr (.bool true) (fun _ _ => kr) ?_
  clear F; intro a F
  refine T_val F H kr (.bool true) (fun _ _ => kr) ?_
  clear F; intro a F
  refine T_val F H kr (.slice (some ⟨rq12.g, 0, none⟩) 67 rq12.cap) (fun _ _ => kr) ?_
  clear F; intro a F
  refine T_val F H kr (.pointer (some ⟨rq12.g, (0 + (66) * 1), none⟩)) (fun w _ => R_indexS (k := .i64) (g := rq12.g) (off := 0) (len := 67) (cap := rq12.cap) (x := (.tmp 71)) (y := (.const (.int .i64 66))) rfl Tryd.underlying25 kr (66) kr (by omega) (sz := 1) kr w) ?_
  clear F; intro a F
  refine T_val F H kr (.int .i64 (((digL (ffK 32)).getD 66 0 : Nat) : Int)) (R_cell (own := true) (g := rq12.g) (all := (sl (ints .i64 (digL (ffK 32))) rq12.rest)) (t := 3) (fr := (0, 0)) 6 kr 3 (.tmp 72) rfl (0 + (66) * 1) kr (.int .i64 (((digL (ffK 32)).getD 66 0 : Nat) : Int)) ((congrArg (fun q => ((sl (ints .i64 (digL (ffK 32))) rq12.rest))[q]?) (show (0 + (66) * 1) = 66 by omega)).trans (sl_get (ints_get (digD_get (ffK 32) (by omega))))) _ Tryd.underlying3 rfl) ?_
  clear F; intro a F
  refine T_val F H kr (.bool true) (fun w _ => R_bin (x := (.tmp 73)) (y := (.const (.int .i64 0))) rfl (k := .i64) (a := (((digL (ffK 32)).getD 66 0 : Nat) : Int)) (b := ((0 : Nat) : Int)) kr kr (i_eq (congrArg (fun q : Nat => (q : Int)) dA66)) w) ?_
  clear F; intro a F
  refine T_val F H kr (.bool true) (fun _ _ => kr) ?_
  clear F; intro a F
  refine T_val F H kr (.bool true) (fun _ _ => kr) ?_
  clear F; intro a F
  refine T_val F H kr (.slice (some ⟨rq14.g, 0, none⟩) 67 rq14.cap) (fun _ _ => kr) ?_
  clear F; intro a F
  refine T_val F H kr (.pointer (some ⟨rq14.g, (0 + (64) * 1), none⟩)) (fun w _ => R_indexS (k := .i64) (g := rq14.g) (off := 0) (len := 67) (cap := rq14.cap) (x := (.tmp 77)) (y := (.const (.int .i64 64))) rfl Tryd.underlying25 kr (64) kr (by omega) (sz := 1) kr w) ?_
  clear F; intro a F
  refine T_val F H kr (.int .i64 (((digL zF).getD 64 0 : Nat) : Int)) (R_cell (own := true) (g := rq14.g) (all := (sl (ints .i64 (digL zF)) rq14.rest)) (t := 3) (fr := (0, 0)) 7 kr 3 (.tmp 78) rfl (0 + (64) * 1) kr (.int .i64 (((digL zF).getD 64 0 : Nat) : Int)) ((congrArg (fun q => ((sl (ints .i64 (digL zF)) rq14.rest))[q]?) (show (0 + (64) * 1) = 64 by omega)).trans (sl_get (ints_get (digD_get zF (by omega))))) _ Tryd.underlying3 rfl) ?_
  clear F; intro a F
  refine T_val F H kr (.bool true) (fun w _ => R_bin (x := (.tmp 79)) (y := (.const (.int .i64 3))) rfl (k := .i64) (a := (((digL zF).getD 64 0 : Nat) : Int)) (b := ((3 : Nat) : Int)) kr kr (i_eq (congrArg (fun q : Nat => (q : Int)) dB64)) w) ?_
  clear F; intro a F
  refine T_val F H kr (.bool true) (fun _ _ => kr) ?_
  clear F; intro a F
  refine T_val F H kr (.bool true) (fun _ _ => kr) ?_
  clear F; intro a F
  refine T_val F H kr (.slice (some ⟨rq14.g, 0, none⟩) 67 rq14.cap) (fun _ _ => kr) ?_
  clear F; intro a F
  refine T_val F H kr (.pointer (some ⟨rq14.g, (0 + (65) * 1), none⟩)) (fun w _ => R_indexS (k := .i64) (g := rq14.g) (off := 0) (len := 67) (cap := rq14.cap) (x := (.tmp 83)) (y := (.const (.int .i64 65))) rfl Tryd.underlying25 kr (65) kr (by omega) (sz := 1) kr w) ?_
  clear F; intro a F
  refine T_val F H kr (.int .i64 (((digL zF).getD 65 0 : Nat) : Int)) (R_cell (own := true) (g := rq14.g) (all := (sl (ints .i64 (digL zF)) rq14.rest)) (t := 3) (fr := (0, 0)) 7 kr 3 (.tmp 84) rfl (0 + (65) * 1) kr (.int .i64 (((digL zF).getD 65 0 : Nat) : Int)) ((congrArg (fun q => ((sl (ints .i64 (digL zF)) rq14.rest))[q]?) (show (0 + (65) * 1) = 65 by omega)).trans (sl_get (ints_get (digD_get zF (by omega))))) _ Tryd.underlying3 rfl) ?_
  clear F; intro a F
  refine T_val F H kr (.bool true) (fun w _ => R_bin (x := (.tmp 85)) (y := (.const (.int .i64 12))) rfl (k := .i64) (a := (((digL zF).getD 65 0 : Nat) : Int)) (b := ((12 : Nat) : Int)) kr kr (i_eq (congrArg (fun q : Nat => (q : Int)) dB65)) w) ?_
  clear F; intro a F
  refine T_val F H kr (.bool true) (fun _ _ => kr) ?_
  clear F; intro a F
  refine T_val F H kr (.bool true) (fun _ _ => kr) ?_
  clear F; intro a F
  refine T_val F H kr (.slice (some ⟨rq14.g, 0, none⟩) 67 rq14.cap) (fun _ _ => kr) ?_
  clear F; intro a F
  refine T_val F H kr (.pointer (some ⟨rq14.g, (0 + (66) * 1), none⟩)) (fun w _ => R_indexS (k := .i64) (g := rq14.g) (off := 0) (len := 67) (cap := rq14.cap) (x := (.tmp 89)) (y := (.const (.int .i64 66))) rfl Tryd.underlying25 kr (66) kr (by omega) (sz := 1) kr w) ?_
  clear F; intro a F
  refine T_val F H kr (.int .i64 (((digL zF).getD 66 0 : Nat) : Int)) (R_cell (own := true) (g := rq14.g) (all := (sl (ints .i64 (digL zF)) rq14.rest)) (t := 3) (fr := (0, 0)) 7 kr 3 (.tmp 90) rfl (0 + (66) * 1) kr (.int .i64 (((digL zF).getD 66 0 : Nat) : Int)) ((congrArg (fun q => ((sl (ints .i64 (digL zF)) rq14.rest))[q]?) (show (0 + (66) * 1) = 66 by omega)).trans (sl_get (ints_get (digD_get zF (by omega))))) _ Tryd.underlying3 rfl) ?_
  clear F; intro a F
  refine T_val F H kr (.bool true) (fun w _ => R_bin (x := (.tmp 91)) (y := (.const (.int .i64 0))) rfl (k := .i64) (a := (((digL zF).getD 66 0 : Nat) : Int)) (b := ((0 : Nat) : Int)) kr kr (i_eq (congrArg (fun q : Nat => (q : Int)) dB66)) w) ?_
  clear F; intro a F
  refine T_val F H kr (.bool true) (fun _ _ => kr) ?_
  clear F; intro a F
  refine T_val F H kr (.bool true) (fun _ _ => kr) ?_
  clear F; intro a F
  refine T_val F H kr (.int .i64 ((0 : Nat) : Int)) (fun _ _ => kr) ?_
  clear F; intro a F
  refine T_val F H kr (.bool true) (fun w _ => R_bin (x := (.tmp 95)) (y := (.const (.int .i64 0))) rfl (k := .i64) (a := ((0 : Nat) : Int)) (b := ((0 : Nat) : Int)) kr kr (i_eq rfl) w) ?_
  clear F; intro a F
  refine T_val F H kr (.bool true) (fun _ _ => kr) ?_
  clear F; intro a F
  refine T_val F H kr (.bool true) (fun _ _ => kr) ?_
  clear F; intro a F
  refine T_val F H kr (.agg (arrF .u8 32 ky)) (R_load (own := true) (g := aq27) (all := (arrF .u8 32 ky)) (t := 23) (fr := (0, 0)) 2 kr 23 (.tmp 8) rfl 0 kr (arrF .u8 32 ky) (part_all _) _ Tryd.underlying23 rfl (by rw [arrF_size]; kernel_rfl)) ?_
  clear F; intro a F
  refine T_val F H kr (.agg (arrF .u8 32 ky)) (R_load (own := true) (g := aq33) (all := (arrF .u8 32 ky)) (t := 23) (fr := (0, 0)) 0 kr 23 (.tmp 12) rfl 0 kr (arrF .u8 32 ky) (part_all _) _ Tryd.underlying23 rfl (by rw [arrF_size]; kernel_rfl)) ?_
  clear F; intro a F
  refine T_val F H kr (.bool true) (fun w _ => R_eqK (x := (.tmp 99)) (y := (.tmp 100)) rfl ky ky kr kr true ⟨fun _ _ _ => rfl, fun _ => rfl⟩ w) ?_
  clear F; intro a F
  refine T_val F H kr (.bool true) (fun _ _ => kr) ?_
  clear F; intro a F
  refine T_val F H kr (.bool true) (fun _ _ => kr) ?_
  clear F; intro a F
  refine T_val F H kr (.int .i64 ((0 : Nat) : Int)) (fun _ _ => kr) ?_
  clear F; intro a F
  refine T_val F H kr (.bool true) (fun w _ => R_bin (x := (.tmp 104)) (y := (.const (.int .i64 0))) rfl (k := .i64) (a := ((0 : Nat) : Int)) (b := ((0 : Nat) : Int)) kr kr (i_eq rfl) w) ?_
  clear F; intro a F
  refine T_val F H kr (.bool true) (fun _ _ => kr) ?_
  clear F; intro a F
  refine T_val F H kr (.bool true) (fun _ _ => kr) ?_
  clear F; intro a F
  refine T_val F H kr (.agg (arrF .u8 32 kn)) (R_load (own := true) (g := aq30) (all := (arrF .u8 32 kn)) (t := 23) (fr := (0, 0)) 1 kr 23 (.tmp 10) rfl 0 kr (arrF .u8 32 kn) (part_all _) _ Tryd.underlying23 rfl (by rw [arrF_size]; kernel_rfl)) ?_
  clear F; intro a F
  refine T_val F H kr (.agg (arrF .u8 32 ky)) (R_load (own := true) (g := aq33) (all := (arrF .u8 32 ky)) (t := 23) (fr := (0, 0)) 0 kr 23 (.tmp 12) rfl 0 kr (arrF .u8 32 ky) (part_all _) _ Tryd.underlying23 rfl (by rw [arrF_size]; kernel_rfl)) ?_
  clear F; intro a F
  refine T_val F H kr (.bool true) (fun w _ => R_neK (x := (.tmp 108)) (y := (.tmp 109)) rfl kn ky kr kr false ⟨fun h => Bool.noConfusion h, fun h => absurd h hne⟩ w) ?_
  clear F; intro a F
  refine T_val F H kr (.bool true) (fun _ _ => kr) ?_
  clear F; intro a F
  refine T_val F H kr (.bool true) (fun _ _ => kr) ?_
  clear F; intro a F
  refine wpList_nil ?_
  refine hK34 _ _ ?_
  clear hK34
  try clear K34
  refine wp_ret ?_
  exact C_ret F H (rs := [.tmp 0]) rfl (vs := [.bool true]) (.tmp rfl .nil) (.bool true) rfl ⟨rfl, H.kept⟩
end Go.Proofs.YtdejhenkdbjakaaDoor
