/- Walks: OtsGuards, OtsParts. -/
import Derived.Test.YtdejhenkdbjakaaDoorE3
set_option linter.unusedVariables false
set_option linter.unusedSimpArgs false
namespace Go.Proofs.YtdejhenkdbjakaaDoor
open Go Go.RowKit
theorem C_lastK {P : Program} {Q : Exit → Act → World → Prop} {x : Code} {a : Act} {w : World} (h : ∀ K : Act → World → Prop, (∀ a w, Q .normal a w → K a w) → x.wp P (Exit.then K Q) a w) : x.wp P Q a w :=
  Code.wp_mono (by intro e a w q; cases e <;> exact q) (h (Q .normal) fun _ _ h => h)
theorem i_gtb {k : IntKind} {a b : Nat} : intRes .gtr k (a : Int) (b : Int) = some (.bool (decide (b < a))) := by
  by_cases h : b < a
  · rw [decide_eq_true h]; exact i_gtn h
  · rw [decide_eq_false h]; exact i_ngtn (Nat.le_of_not_lt h)
/-- Whether one of the first k of l is above the other's. -/
def abv (l m : List Nat) : Nat → Bool
  | 0 => false
  | k + 1 => abv l m k || decide (m.getD k 0 < l.getD k 0)
theorem abv_iff (l m : List Nat) : ∀ k, abv l m k = false ↔ ∀ i, i < k → l.getD i 0 ≤ m.getD i 0
  | 0 => ⟨fun _ i hi => absurd hi (Nat.not_lt_zero i), fun _ => rfl⟩
  | k + 1 => by
    rw [abv, Bool.or_eq_false_iff, abv_iff l m k, decide_eq_false_iff_not]
    constructor
    · rintro ⟨h1, h2⟩ i hi
      rcases Nat.lt_or_ge i k with h | h
      · exact h1 i h
      · obtain rfl : i = k := by omega
        omega
    · exact fun h => ⟨fun i hi => h i (by omega), by have := h k (by omega); omega⟩
theorem abv_same {f g : Nat → Nat} (hf : ∀ i, i < 32 → f i < 256) (hg : ∀ i, i < 32 → g i < 256) (bb : Bool) (hb : bb = true ↔ ∀ i, i < 32 → f i = g i) : abv (digL f) (digL g) 67 = !bb := by
  rcases Bool.eq_false_or_eq_true bb with h | h
  · rw [h]
    have h := hb.1 h
    refine (abv_iff _ _ _).2 fun i hi => ?_
    have e : ∀ k, k ≤ 32 → digB f k = digB g k := by
      intro k
      induction k with
      | zero => intro _; rfl
      | succ k ih => intro hk; rw [digB, digB, ih (by omega), h k (by omega)]
    rw [digL, digL, e 32 (by omega)]
    exact Nat.le_refl _
  · rw [h]
    rcases Bool.eq_false_or_eq_true (abv (digL f) (digL g) 67) with e | e
    · exact e
    · refine absurd (hb.2 (dig_above hf hg fun i a b ha hb => ?_)) (by rw [h]; exact Bool.false_ne_true)
      have hi : i < 67 := by have := (List.getElem?_eq_some_iff.1 ha).1; rw [digL_len] at this; exact this
      have := (abv_iff _ _ _).1 e i hi
      rw [List.getD_eq_getElem?_getD, List.getD_eq_getElem?_getD, ha, hb] at this
      exact this

theorem awake_any (w : World) (hW : Laid w) : Calls Tryd.prog 15 #[] w fun e w' => e = .returned (.bool true) ∧ Kept [] w w' := awake_of awake_ne w hW

set_option maxRecDepth 100000 in
set_option maxHeartbeats 4000000 in
theorem otsGuards_any (fo : Nat → Nat) (hfo : ∀ i, i < 32 → fo i < 256) (ft : Nat → Nat) (hft : ∀ i, i < 32 → ft i < 256) (w : World) (hW : Laid w) : Calls Tryd.prog 6 #[.agg (arrF .u8 32 fo), .agg (arrF .u8 32 ft)] w fun e w' => e = .returned (.bool true) ∧ Kept [] w w' := by
  refine C_enter Tryd.func6 rfl 93 Tryd.ntmps6 (Nat.le_of_ble_eq_true rfl) (fun a F => ?_)
  have H := Hp.start [] w
  replace F : Fm 93 [] [(0, .agg (arrF .u8 32 fo)), (1, .agg (arrF .u8 32 ft))] a := F.weak _ (⟨rfl, ⟨rfl, trivial⟩⟩)
  refine C_seqK (fun K1 hK1 => ?_)
  refine C_region ?_
  refine T_new F H (by as_aux_lemma => kernel_rfl) (fun ad => .pointer (some ⟨ad, 0, none⟩)) (.cells (arrF .u8 32 fo) 23 (0, 0)) (fun w => by as_aux_lemma => kernel_rfl) ?_
  clear F H; intro aq2 a v F H
  refine T_new F H (by as_aux_lemma => kernel_rfl) (fun ad => .pointer (some ⟨ad, 0, none⟩)) (.cells (arrF .u8 32 ft) 23 (0, 0)) (fun w => by as_aux_lemma => kernel_rfl) ?_
  clear F H; intro aq3 a v F H
  refine T_val F H (by as_aux_lemma => kernel_rfl) (.bool false) (fun _ _ => by as_aux_lemma => kernel_rfl) ?_
  clear F; intro a F
  refine wpList_nil ?_
  refine hK1 _ _ ?_
  clear hK1
  try clear K1
  refine C_seqK (fun K4 hK4 => ?_)
  refine C_region ?_
  refine T_call F H (by as_aux_lemma => kernel_rfl) 15 #[] (.bool true) (fun w => by as_aux_lemma => kernel_rfl) (awake_any _ (hW.kept H.kept List.not_mem_nil List.not_mem_nil)) ?_
  clear F H; intro a v F H
  refine T_val F H (by as_aux_lemma => kernel_rfl) (.bool true) (fun _ _ => by as_aux_lemma => kernel_rfl) ?_
  clear F; intro a F
  refine wpList_nil ?_
  refine hK4 _ _ ?_
  clear hK4
  try clear K4
  refine C_seqK (fun K5 hK5 => ?_)
  refine C_region ?_
  refine T_val F H (by as_aux_lemma => kernel_rfl) (.agg (arrF .u8 32 fo)) (R_load (own := true) (g := aq2) (all := (arrF .u8 32 fo)) (t := 23) (fr := (0, 0)) 1 (by as_aux_lemma => kernel_rfl) 23 (.tmp 2) rfl 0 (by as_aux_lemma => kernel_rfl) (arrF .u8 32 fo) (part_all _) _ Tryd.underlying23 rfl (by rw [arrF_size]; kernel_rfl)) ?_
  clear F; intro a F
  refine T_callX (α := SlR) F H (by as_aux_lemma => kernel_rfl) 16 #[.agg (arrF .u8 32 fo)] (fun rX => .slice (some ⟨rX.g, 0, none⟩) 67 rX.cap) (fun rX => [⟨true, rX.g, .cells (sl (ints .i64 (digL fo)) rX.rest) 3 (0, 0)⟩, ⟨true, aq3, .cells (arrF .u8 32 ft) 23 (0, 0)⟩, ⟨true, aq2, .cells (arrF .u8 32 fo) 23 (0, 0)⟩]) (fun rX => Own (ints .i64 (digL fo)) rX.rest 67 rX.cap 1) (fun w => by as_aux_lemma => kernel_rfl) (fun w H => callsX_newV H (digits_any fo hfo _)) ?_
  clear F H; intro rq6 a v Qrq6 F H
  refine T_val F H (by as_aux_lemma => kernel_rfl) (.slice (some ⟨rq6.g, 0, none⟩) 67 rq6.cap) (fun _ _ => by as_aux_lemma => kernel_rfl) ?_
  clear F; intro a F
  refine wpList_nil ?_
  refine hK5 _ _ ?_
  clear hK5
  try clear K5
  refine C_seqK (fun K7 hK7 => ?_)
  refine C_region ?_
  refine T_val F H (by as_aux_lemma => kernel_rfl) (.agg (arrF .u8 32 ft)) (R_load (own := true) (g := aq3) (all := (arrF .u8 32 ft)) (t := 23) (fr := (0, 0)) 1 (by as_aux_lemma => kernel_rfl) 23 (.tmp 3) rfl 0 (by as_aux_lemma => kernel_rfl) (arrF .u8 32 ft) (part_all _) _ Tryd.underlying23 rfl (by rw [arrF_size]; kernel_rfl)) ?_
  clear F; intro a F
  refine T_callX (α := SlR) F H (by as_aux_lemma => kernel_rfl) 16 #[.agg (arrF .u8 32 ft)] (fun rX => .slice (some ⟨rX.g, 0, none⟩) 67 rX.cap) (fun rX => [⟨true, rX.g, .cells (sl (ints .i64 (digL ft)) rX.rest) 3 (0, 0)⟩, ⟨true, rq6.g, .cells (sl (ints .i64 (digL fo)) rq6.rest) 3 (0, 0)⟩, ⟨true, aq3, .cells (arrF .u8 32 ft) 23 (0, 0)⟩, ⟨true, aq2, .cells (arrF .u8 32 fo) 23 (0, 0)⟩]) (fun rX => Own (ints .i64 (digL ft)) rX.rest 67 rX.cap 1) (fun w => by as_aux_lemma => kernel_rfl) (fun w H => callsX_newV H (digits_any ft hft _)) ?_
  clear F H; intro rq8 a v Qrq8 F H
  refine T_val F H (by as_aux_lemma => kernel_rfl) (.slice (some ⟨rq8.g, 0, none⟩) 67 rq8.cap) (fun _ _ => by as_aux_lemma => kernel_rfl) ?_
  clear F; intro a F
  refine wpList_nil ?_
  refine hK7 _ _ ?_
  clear hK7
  try clear K7
  refine C_seqK (fun K9 hK9 => ?_)
  refine C_seqK (fun K10 hK10 => ?_)
  refine C_region ?_
  refine T_val F H (by as_aux_lemma => kernel_rfl) (.slice (some ⟨rq6.g, 0, none⟩) 67 rq6.cap) (fun _ _ => by as_aux_lemma => kernel_rfl) ?_
  clear F; intro a F
  refine T_val F H (by as_aux_lemma => kernel_rfl) (.int .i64 ((67 : Nat) : Int)) (fun _ _ => by as_aux_lemma => kernel_rfl) ?_
  clear F; intro a F
  refine T_val F H (by as_aux_lemma => kernel_rfl) (.bool false) (fun _ _ => by as_aux_lemma => kernel_rfl) ?_
  clear F; intro a F
  refine T_val F H (by as_aux_lemma => kernel_rfl) (.bool false) (fun _ _ => by as_aux_lemma => kernel_rfl) ?_
  clear F; intro a F
  refine T_val F H (by as_aux_lemma => kernel_rfl) (.slice (some ⟨rq8.g, 0, none⟩) 67 rq8.cap) (fun _ _ => by as_aux_lemma => kernel_rfl) ?_
  clear F; intro a F
  refine T_val F H (by as_aux_lemma => kernel_rfl) (.int .i64 ((67 : Nat) : Int)) (fun _ _ => by as_aux_lemma => kernel_rfl) ?_
  clear F; intro a F
  refine T_val F H (by as_aux_lemma => kernel_rfl) (.bool false) (fun _ _ => by as_aux_lemma => kernel_rfl) ?_
  clear F; intro a F
  refine T_val F H (by as_aux_lemma => kernel_rfl) (.bool false) (fun _ _ => by as_aux_lemma => kernel_rfl) ?_
  clear F; intro a F
  refine wpList_nil ?_
  refine hK10 _ _ ?_
  clear hK10
  try clear K10
  refine C_if F false rfl rfl ?_
  refine wp_skip ?_
  refine hK9 _ _ ?_
  clear hK9
  try clear K9
  refine C_seqK (fun K11 hK11 => ?_)
  refine C_region ?_
  refine T_val F H (by as_aux_lemma => kernel_rfl) (.bool false) (fun _ _ => by as_aux_lemma => kernel_rfl) ?_
  clear F; intro a F
  refine wpList_nil ?_
  refine hK11 _ _ ?_
  clear hK11
  try clear K11
  refine C_seqK (fun K12 hK12 => ?_)
  refine C_region ?_
  refine T_val F H (by as_aux_lemma => kernel_rfl) (.bool false) (fun _ _ => by as_aux_lemma => kernel_rfl) ?_
  clear F; intro a F
  refine wpList_nil ?_
  refine hK12 _ _ ?_
  clear hK12
  try clear K12
  refine C_seqK (fun K13 hK13 => ?_)
  refine C_seqK (fun K14 hK14 => ?_)
  refine C_region ?_
  refine T_val F H (by as_aux_lemma => kernel_rfl) (.int .i64 ((0 : Nat) : Int)) (fun _ _ => by as_aux_lemma => kernel_rfl) ?_
  clear F; intro a F
  refine wpList_nil ?_
  replace F : Fm 93 [] [(10, .int .i64 ((0 : Nat) : Int)), (8, .bool false), (9, .bool false), (6, .slice (some ⟨rq6.g, 0, none⟩) 67 rq6.cap), (7, .slice (some ⟨rq8.g, 0, none⟩) 67 rq8.cap), (5, .bool true), (2, .pointer (some ⟨aq2, 0, none⟩)), (3, .pointer (some ⟨aq3, 0, none⟩))] a := F.weak _ (⟨rfl, ⟨rfl, ⟨rfl, ⟨rfl, ⟨rfl, ⟨rfl, ⟨rfl, ⟨rfl, trivial⟩⟩⟩⟩⟩⟩⟩⟩)
  replace H : Hp [] w [⟨true, rq6.g, .cells (sl (ints .i64 (digL fo)) rq6.rest) 3 (0, 0)⟩, ⟨true, rq8.g, .cells (sl (ints .i64 (digL ft)) rq8.rest) 3 (0, 0)⟩, ⟨true, aq2, .cells (arrF .u8 32 fo) 23 (0, 0)⟩, ⟨true, aq3, .cells (arrF .u8 32 ft) 23 (0, 0)⟩] v := H.pick [1, 0, 3, 2] (by as_aux_lemma => kernel_rfl) _ rfl
  replace F : Fm 93 [] [(10, .int .i64 ((0 : Nat) : Int)), (8, .bool (abv (digL fo) (digL ft) 0)), (9, .bool (abv (digL ft) (digL fo) 0)), (6, .slice (some ⟨rq6.g, 0, none⟩) 67 rq6.cap), (7, .slice (some ⟨rq8.g, 0, none⟩) 67 rq8.cap), (5, .bool true), (2, .pointer (some ⟨aq2, 0, none⟩)), (3, .pointer (some ⟨aq3, 0, none⟩))] a := F
  refine hK14 _ _ ?_
  clear hK14
  try clear K14
  refine wp_block ?_
  refine C_loop (fun m a v => ∃ k, k + m = 67 ∧ Fm 93 [] [(10, .int .i64 ((k : Nat) : Int)), (8, .bool (abv (digL fo) (digL ft) k)), (9, .bool (abv (digL ft) (digL fo) k)), (6, .slice (some ⟨rq6.g, 0, none⟩) 67 rq6.cap), (7, .slice (some ⟨rq8.g, 0, none⟩) 67 rq8.cap), (5, .bool true), (2, .pointer (some ⟨aq2, 0, none⟩)), (3, .pointer (some ⟨aq3, 0, none⟩))] a ∧ Hp [] w [⟨true, rq6.g, .cells (sl (ints .i64 (digL fo)) rq6.rest) 3 (0, 0)⟩, ⟨true, rq8.g, .cells (sl (ints .i64 (digL ft)) rq8.rest) 3 (0, 0)⟩, ⟨true, aq2, .cells (arrF .u8 32 fo) 23 (0, 0)⟩, ⟨true, aq3, .cells (arrF .u8 32 ft) 23 (0, 0)⟩] v) (67) ⟨0, Nat.zero_add _, F, H⟩ ?_
  clear F H
  intro m a v ⟨k, hk, F, H⟩
  rcases m with _ | m
  rotate_left
  · skip
    have hda := digD_lt hfo k
    have hdb := digD_lt hft k
    refine C_seqK (fun K15 hK15 => ?_)
    refine C_seqK (fun K16 hK16 => ?_)
    refine C_region ?_
    refine T_val F H (by as_aux_lemma => kernel_rfl) (.int .i64 ((k : Nat) : Int)) (fun _ _ => by as_aux_lemma => kernel_rfl) ?_
    clear F; intro a F
    refine T_val F H (by as_aux_lemma => kernel_rfl) (.bool true) (fun w _ => R_bin (x := (.tmp 24)) (y := (.const (.int .i64 67))) rfl (k := .i64) (a := ((k : Nat) : Int)) (b := ((67 : Nat) : Int)) (by as_aux_lemma => kernel_rfl) (by as_aux_lemma => kernel_rfl) (i_lt (by omega)) w) ?_
    clear F; intro a F
    refine wpList_nil ?_
    refine hK16 _ _ ?_
    clear hK16
    try clear K16
    refine C_if F true rfl rfl ?_
    refine wp_skip ?_
    refine hK15 _ _ ?_
    clear hK15
    try clear K15
    refine C_seqK (fun K17 hK17 => ?_)
    refine wp_block ?_
    refine C_seqK (fun K18 hK18 => ?_)
    refine C_seqK (fun K19 hK19 => ?_)
    refine C_region ?_
    refine T_val F H (by as_aux_lemma => kernel_rfl) (.slice (some ⟨rq6.g, 0, none⟩) 67 rq6.cap) (fun _ _ => by as_aux_lemma => kernel_rfl) ?_
    clear F; intro a F
    refine T_val F H (by as_aux_lemma => kernel_rfl) (.int .i64 ((k : Nat) : Int)) (fun _ _ => by as_aux_lemma => kernel_rfl) ?_
    clear F; intro a F
    refine T_val F H (by as_aux_lemma => kernel_rfl) (.pointer (some ⟨rq6.g, (0 + (k) * 1), none⟩)) (fun w _ => R_indexS (k := .i64) (g := rq6.g) (off := 0) (len := 67) (cap := rq6.cap) (x := (.tmp 28)) (y := (.tmp 29)) rfl Tryd.underlying25 (by as_aux_lemma => kernel_rfl) (k) (by as_aux_lemma => kernel_rfl) (by omega) (sz := 1) (by as_aux_lemma => kernel_rfl) w) ?_
    clear F; intro a F
    refine T_val F H (by as_aux_lemma => kernel_rfl) (.int .i64 (((digL fo).getD k 0 : Nat) : Int)) (R_cell (own := true) (g := rq6.g) (all := (sl (ints .i64 (digL fo)) rq6.rest)) (t := 3) (fr := (0, 0)) 0 (by as_aux_lemma => kernel_rfl) 3 (.tmp 30) rfl (0 + (k) * 1) (by as_aux_lemma => kernel_rfl) (.int .i64 (((digL fo).getD k 0 : Nat) : Int)) ((congrArg (fun q => ((sl (ints .i64 (digL fo)) rq6.rest))[q]?) (show (0 + (k) * 1) = k by omega)).trans (sl_get (ints_get (digD_get fo (by omega))))) _ Tryd.underlying3 rfl) ?_
    clear F; intro a F
    refine T_val F H (by as_aux_lemma => kernel_rfl) (.bool false) (fun w _ => R_bin (x := (.tmp 31)) (y := (.const (.int .i64 0))) rfl (k := .i64) (a := (((digL fo).getD k 0 : Nat) : Int)) (b := ((0 : Nat) : Int)) (by as_aux_lemma => kernel_rfl) (by as_aux_lemma => kernel_rfl) (i_nlt (by omega)) w) ?_
    clear F; intro a F
    refine T_val F H (by as_aux_lemma => kernel_rfl) (.bool false) (fun _ _ => by as_aux_lemma => kernel_rfl) ?_
    clear F; intro a F
    refine T_val F H (by as_aux_lemma => kernel_rfl) (.slice (some ⟨rq6.g, 0, none⟩) 67 rq6.cap) (fun _ _ => by as_aux_lemma => kernel_rfl) ?_
    clear F; intro a F
    refine T_val F H (by as_aux_lemma => kernel_rfl) (.int .i64 ((k : Nat) : Int)) (fun _ _ => by as_aux_lemma => kernel_rfl) ?_
    clear F; intro a F
    refine T_val F H (by as_aux_lemma => kernel_rfl) (.pointer (some ⟨rq6.g, (0 + (k) * 1), none⟩)) (fun w _ => R_indexS (k := .i64) (g := rq6.g) (off := 0) (len := 67) (cap := rq6.cap) (x := (.tmp 34)) (y := (.tmp 35)) rfl Tryd.underlying25 (by as_aux_lemma => kernel_rfl) (k) (by as_aux_lemma => kernel_rfl) (by omega) (sz := 1) (by as_aux_lemma => kernel_rfl) w) ?_
    clear F; intro a F
    refine T_val F H (by as_aux_lemma => kernel_rfl) (.int .i64 (((digL fo).getD k 0 : Nat) : Int)) (R_cell (own := true) (g := rq6.g) (all := (sl (ints .i64 (digL fo)) rq6.rest)) (t := 3) (fr := (0, 0)) 0 (by as_aux_lemma => kernel_rfl) 3 (.tmp 36) rfl (0 + (k) * 1) (by as_aux_lemma => kernel_rfl) (.int .i64 (((digL fo).getD k 0 : Nat) : Int)) ((congrArg (fun q => ((sl (ints .i64 (digL fo)) rq6.rest))[q]?) (show (0 + (k) * 1) = k by omega)).trans (sl_get (ints_get (digD_get fo (by omega))))) _ Tryd.underlying3 rfl) ?_
    clear F; intro a F
    refine T_val F H (by as_aux_lemma => kernel_rfl) (.bool false) (fun w _ => R_bin (x := (.tmp 37)) (y := (.const (.int .i64 15))) rfl (k := .i64) (a := (((digL fo).getD k 0 : Nat) : Int)) (b := ((15 : Nat) : Int)) (by as_aux_lemma => kernel_rfl) (by as_aux_lemma => kernel_rfl) (i_ngtn (by omega)) w) ?_
    clear F; intro a F
    refine T_val F H (by as_aux_lemma => kernel_rfl) (.bool false) (fun _ _ => by as_aux_lemma => kernel_rfl) ?_
    clear F; intro a F
    refine T_val F H (by as_aux_lemma => kernel_rfl) (.bool false) (fun _ _ => by as_aux_lemma => kernel_rfl) ?_
    clear F; intro a F
    refine T_val F H (by as_aux_lemma => kernel_rfl) (.slice (some ⟨rq8.g, 0, none⟩) 67 rq8.cap) (fun _ _ => by as_aux_lemma => kernel_rfl) ?_
    clear F; intro a F
    refine T_val F H (by as_aux_lemma => kernel_rfl) (.int .i64 ((k : Nat) : Int)) (fun _ _ => by as_aux_lemma => kernel_rfl) ?_
    clear F; intro a F
    refine T_val F H (by as_aux_lemma => kernel_rfl) (.pointer (some ⟨rq8.g, (0 + (k) * 1), none⟩)) (fun w _ => R_indexS (k := .i64) (g := rq8.g) (off := 0) (len := 67) (cap := rq8.cap) (x := (.tmp 41)) (y := (.tmp 42)) rfl Tryd.underlying25 (by as_aux_lemma => kernel_rfl) (k) (by as_aux_lemma => kernel_rfl) (by omega) (sz := 1) (by as_aux_lemma => kernel_rfl) w) ?_
    clear F; intro a F
    refine T_val F H (by as_aux_lemma => kernel_rfl) (.int .i64 (((digL ft).getD k 0 : Nat) : Int)) (R_cell (own := true) (g := rq8.g) (all := (sl (ints .i64 (digL ft)) rq8.rest)) (t := 3) (fr := (0, 0)) 1 (by as_aux_lemma => kernel_rfl) 3 (.tmp 43) rfl (0 + (k) * 1) (by as_aux_lemma => kernel_rfl) (.int .i64 (((digL ft).getD k 0 : Nat) : Int)) ((congrArg (fun q => ((sl (ints .i64 (digL ft)) rq8.rest))[q]?) (show (0 + (k) * 1) = k by omega)).trans (sl_get (ints_get (digD_get ft (by omega))))) _ Tryd.underlying3 rfl) ?_
    clear F; intro a F
    refine T_val F H (by as_aux_lemma => kernel_rfl) (.bool false) (fun w _ => R_bin (x := (.tmp 44)) (y := (.const (.int .i64 0))) rfl (k := .i64) (a := (((digL ft).getD k 0 : Nat) : Int)) (b := ((0 : Nat) : Int)) (by as_aux_lemma => kernel_rfl) (by as_aux_lemma => kernel_rfl) (i_nlt (by omega)) w) ?_
    clear F; intro a F
    refine T_val F H (by as_aux_lemma => kernel_rfl) (.bool false) (fun _ _ => by as_aux_lemma => kernel_rfl) ?_
    clear F; intro a F
    refine T_val F H (by as_aux_lemma => kernel_rfl) (.bool false) (fun _ _ => by as_aux_lemma => kernel_rfl) ?_
    clear F; intro a F
    refine T_val F H (by as_aux_lemma => kernel_rfl) (.slice (some ⟨rq8.g, 0, none⟩) 67 rq8.cap) (fun _ _ => by as_aux_lemma => kernel_rfl) ?_
    clear F; intro a F
    refine T_val F H (by as_aux_lemma => kernel_rfl) (.int .i64 ((k : Nat) : Int)) (fun _ _ => by as_aux_lemma => kernel_rfl) ?_
    clear F; intro a F
    refine T_val F H (by as_aux_lemma => kernel_rfl) (.pointer (some ⟨rq8.g, (0 + (k) * 1), none⟩)) (fun w _ => R_indexS (k := .i64) (g := rq8.g) (off := 0) (len := 67) (cap := rq8.cap) (x := (.tmp 48)) (y := (.tmp 49)) rfl Tryd.underlying25 (by as_aux_lemma => kernel_rfl) (k) (by as_aux_lemma => kernel_rfl) (by omega) (sz := 1) (by as_aux_lemma => kernel_rfl) w) ?_
    clear F; intro a F
    refine T_val F H (by as_aux_lemma => kernel_rfl) (.int .i64 (((digL ft).getD k 0 : Nat) : Int)) (R_cell (own := true) (g := rq8.g) (all := (sl (ints .i64 (digL ft)) rq8.rest)) (t := 3) (fr := (0, 0)) 1 (by as_aux_lemma => kernel_rfl) 3 (.tmp 50) rfl (0 + (k) * 1) (by as_aux_lemma => kernel_rfl) (.int .i64 (((digL ft).getD k 0 : Nat) : Int)) ((congrArg (fun q => ((sl (ints .i64 (digL ft)) rq8.rest))[q]?) (show (0 + (k) * 1) = k by omega)).trans (sl_get (ints_get (digD_get ft (by omega))))) _ Tryd.underlying3 rfl) ?_
    clear F; intro a F
    refine T_val F H (by as_aux_lemma => kernel_rfl) (.bool false) (fun w _ => R_bin (x := (.tmp 51)) (y := (.const (.int .i64 15))) rfl (k := .i64) (a := (((digL ft).getD k 0 : Nat) : Int)) (b := ((15 : Nat) : Int)) (by as_aux_lemma => kernel_rfl) (by as_aux_lemma => kernel_rfl) (i_ngtn (by omega)) w) ?_
    clear F; intro a F
    refine T_val F H (by as_aux_lemma => kernel_rfl) (.bool false) (fun _ _ => by as_aux_lemma => kernel_rfl) ?_
    clear F; intro a F
    refine wpList_nil ?_
    refine hK19 _ _ ?_
    clear hK19
    try clear K19
    refine C_if F false rfl rfl ?_
    refine wp_skip ?_
    refine hK18 _ _ ?_
    clear hK18
    try clear K18
    refine C_seqK (fun K20 hK20 => ?_)
    refine (fun (hN : ∀ a v, Fm 93 [] [(10, .int .i64 ((k : Nat) : Int)), (8, .bool (abv (digL fo) (digL ft) (k + 1))), (9, .bool (abv (digL ft) (digL fo) k)), (6, .slice (some ⟨rq6.g, 0, none⟩) 67 rq6.cap), (7, .slice (some ⟨rq8.g, 0, none⟩) 67 rq8.cap), (5, .bool true), (2, .pointer (some ⟨aq2, 0, none⟩)), (3, .pointer (some ⟨aq3, 0, none⟩))] a → Hp [] w [⟨true, rq6.g, .cells (sl (ints .i64 (digL fo)) rq6.rest) 3 (0, 0)⟩, ⟨true, rq8.g, .cells (sl (ints .i64 (digL ft)) rq8.rest) 3 (0, 0)⟩, ⟨true, aq2, .cells (arrF .u8 32 fo) 23 (0, 0)⟩, ⟨true, aq3, .cells (arrF .u8 32 ft) 23 (0, 0)⟩] v → K20 a v) => ?_) (fun a v F H => hK20 _ _ ?_)
    · clear hK20
      rcases Bool.eq_false_or_eq_true ((abv (digL fo) (digL ft) k)) with hsp | hsp
      · rw [hsp] at F
        refine E_region F H (fun β => [(54, .bool true), (55, .bool true), (56, undef), (57, undef), (58, undef), (59, undef), (60, undef), (61, undef), (62, undef), (63, undef), (64, undef), (65, .bool true), (8, .bool true)]) [54, 55, 56, 57, 58, 59, 60, 61, 62, 63, 64, 65, 8] [] [⟨true, rq6.g, .cells (sl (ints .i64 (digL fo)) rq6.rest) 3 (0, 0)⟩, ⟨true, rq8.g, .cells (sl (ints .i64 (digL ft)) rq8.rest) 3 (0, 0)⟩, ⟨true, aq2, .cells (arrF .u8 32 fo) 23 (0, 0)⟩, ⟨true, aq3, .cells (arrF .u8 32 ft) 23 (0, 0)⟩] [0, 1, 2, 3] 2 [(0, [8])] (by as_aux_lemma => kernel_rfl) (by as_aux_lemma => kernel_rfl) (by as_aux_lemma => kernel_rfl) (fun β => rfl) trivial ⟨?_, ?_, ?_, ?_, ?_, ?_, ?_, ?_, ?_, ?_, ?_, ?_, ?_, trivial⟩ ?_
        · exact E_val 93 (fun β => by as_aux_lemma => kernel_rfl) (fun β => .bool true) 54 rfl (fun β => by as_aux_lemma => kernel_rfl) 2 [] (by as_aux_lemma => kernel_rfl) rfl (fun β w hk hl hq => by as_aux_lemma => kernel_rfl)
        · exact E_val 93 (fun β => by as_aux_lemma => kernel_rfl) (fun β => .bool true) 55 rfl (fun β => by as_aux_lemma => kernel_rfl) 2 [] (by as_aux_lemma => kernel_rfl) rfl (fun β w hk hl hq => by as_aux_lemma => kernel_rfl)
        · exact E_skip (fun β => by as_aux_lemma => kernel_rfl) 56 rfl (fun β => by as_aux_lemma => kernel_rfl) (by as_aux_lemma => kernel_rfl)
        · exact E_skip (fun β => by as_aux_lemma => kernel_rfl) 57 rfl (fun β => by as_aux_lemma => kernel_rfl) (by as_aux_lemma => kernel_rfl)
        · exact E_skip (fun β => by as_aux_lemma => kernel_rfl) 58 rfl (fun β => by as_aux_lemma => kernel_rfl) (by as_aux_lemma => kernel_rfl)
        · exact E_skip (fun β => by as_aux_lemma => kernel_rfl) 59 rfl (fun β => by as_aux_lemma => kernel_rfl) (by as_aux_lemma => kernel_rfl)
        · exact E_skip (fun β => by as_aux_lemma => kernel_rfl) 60 rfl (fun β => by as_aux_lemma => kernel_rfl) (by as_aux_lemma => kernel_rfl)
        · exact E_skip (fun β => by as_aux_lemma => kernel_rfl) 61 rfl (fun β => by as_aux_lemma => kernel_rfl) (by as_aux_lemma => kernel_rfl)
        · exact E_skip (fun β => by as_aux_lemma => kernel_rfl) 62 rfl (fun β => by as_aux_lemma => kernel_rfl) (by as_aux_lemma => kernel_rfl)
        · exact E_skip (fun β => by as_aux_lemma => kernel_rfl) 63 rfl (fun β => by as_aux_lemma => kernel_rfl) (by as_aux_lemma => kernel_rfl)
        · exact E_skip (fun β => by as_aux_lemma => kernel_rfl) 64 rfl (fun β => by as_aux_lemma => kernel_rfl) (by as_aux_lemma => kernel_rfl)
        · exact E_val 93 (fun β => by as_aux_lemma => kernel_rfl) (fun β => .bool true) 65 rfl (fun β => by as_aux_lemma => kernel_rfl) 2 [] (by as_aux_lemma => kernel_rfl) rfl (fun β w hk hl hq => by as_aux_lemma => kernel_rfl)
        · exact E_val 93 (fun β => by as_aux_lemma => kernel_rfl) (fun β => .bool true) 8 rfl (fun β => by as_aux_lemma => kernel_rfl) 2 [] (by as_aux_lemma => kernel_rfl) rfl (fun β w hk hl hq => by as_aux_lemma => kernel_rfl)
        clear F H; intro β a v Q F H
        replace H : Hp [] w [⟨true, rq6.g, .cells (sl (ints .i64 (digL fo)) rq6.rest) 3 (0, 0)⟩, ⟨true, rq8.g, .cells (sl (ints .i64 (digL ft)) rq8.rest) 3 (0, 0)⟩, ⟨true, aq2, .cells (arrF .u8 32 fo) 23 (0, 0)⟩, ⟨true, aq3, .cells (arrF .u8 32 ft) 23 (0, 0)⟩] v := H
        replace F : Fm 93 [] [(8, .bool true), (65, .bool true), (64, undef), (63, undef), (62, undef), (61, undef), (60, undef), (59, undef), (58, undef), (57, undef), (56, undef), (55, .bool true), (54, .bool true), (53, .bool false), (52, .bool false), (51, .int .i64 (((digL ft).getD k 0 : Nat) : Int)), (50, .pointer (some ⟨rq8.g, (0 + (k) * 1), none⟩)), (49, .int .i64 ((k : Nat) : Int)), (48, .slice (some ⟨rq8.g, 0, none⟩) 67 rq8.cap), (47, .bool false), (46, .bool false), (45, .bool false), (44, .int .i64 (((digL ft).getD k 0 : Nat) : Int)), (43, .pointer (some ⟨rq8.g, (0 + (k) * 1), none⟩)), (42, .int .i64 ((k : Nat) : Int)), (41, .slice (some ⟨rq8.g, 0, none⟩) 67 rq8.cap), (40, .bool false), (39, .bool false), (38, .bool false), (37, .int .i64 (((digL fo).getD k 0 : Nat) : Int)), (36, .pointer (some ⟨rq6.g, (0 + (k) * 1), none⟩)), (35, .int .i64 ((k : Nat) : Int)), (34, .slice (some ⟨rq6.g, 0, none⟩) 67 rq6.cap), (33, .bool false), (32, .bool false), (31, .int .i64 (((digL fo).getD k 0 : Nat) : Int)), (30, .pointer (some ⟨rq6.g, (0 + (k) * 1), none⟩)), (29, .int .i64 ((k : Nat) : Int)), (28, .slice (some ⟨rq6.g, 0, none⟩) 67 rq6.cap), (25, .bool true), (24, .int .i64 ((k : Nat) : Int)), (10, .int .i64 ((k : Nat) : Int)), (9, .bool (abv (digL ft) (digL fo) k)), (6, .slice (some ⟨rq6.g, 0, none⟩) 67 rq6.cap), (7, .slice (some ⟨rq8.g, 0, none⟩) 67 rq8.cap), (5, .bool true), (2, .pointer (some ⟨aq2, 0, none⟩)), (3, .pointer (some ⟨aq3, 0, none⟩))] a := F.weak _ (⟨rfl, ⟨rfl, ⟨rfl, ⟨rfl, ⟨rfl, ⟨rfl, ⟨rfl, ⟨rfl, ⟨rfl, ⟨rfl, ⟨rfl, ⟨rfl, ⟨rfl, ⟨rfl, ⟨rfl, ⟨rfl, ⟨rfl, ⟨rfl, ⟨rfl, ⟨rfl, ⟨rfl, ⟨rfl, ⟨rfl, ⟨rfl, ⟨rfl, ⟨rfl, ⟨rfl, ⟨rfl, ⟨rfl, ⟨rfl, ⟨rfl, ⟨rfl, ⟨rfl, ⟨rfl, ⟨rfl, ⟨rfl, ⟨rfl, ⟨rfl, ⟨rfl, ⟨rfl, ⟨rfl, ⟨rfl, ⟨rfl, ⟨rfl, ⟨rfl, ⟨rfl, ⟨rfl, ⟨rfl, trivial⟩⟩⟩⟩⟩⟩⟩⟩⟩⟩⟩⟩⟩⟩⟩⟩⟩⟩⟩⟩⟩⟩⟩⟩⟩⟩⟩⟩⟩⟩⟩⟩⟩⟩⟩⟩⟩⟩⟩⟩⟩⟩⟩⟩⟩⟩⟩⟩)
        clear Q
        refine ?_
        refine hN _ _ ?_ H
        replace F : Fm 93 [] [(10, .int .i64 ((k : Nat) : Int)), (8, .bool true), (9, .bool (abv (digL ft) (digL fo) k)), (6, .slice (some ⟨rq6.g, 0, none⟩) 67 rq6.cap), (7, .slice (some ⟨rq8.g, 0, none⟩) 67 rq8.cap), (5, .bool true), (2, .pointer (some ⟨aq2, 0, none⟩)), (3, .pointer (some ⟨aq3, 0, none⟩))] a := F.weak _ (⟨rfl, ⟨rfl, ⟨rfl, ⟨rfl, ⟨rfl, ⟨rfl, ⟨rfl, ⟨rfl, trivial⟩⟩⟩⟩⟩⟩⟩⟩)
        rw [show (abv (digL fo) (digL ft) (k + 1)) = ((abv (digL fo) (digL ft) k) || decide ((digL ft).getD k 0 < (digL fo).getD k 0)) from rfl, hsp]
        try rw [Bool.true_or]
        try rw [Bool.false_or]
        exact F
      · rw [hsp] at F
        refine E_region F H (fun β => [(54, .bool false), (55, .bool false), (56, .slice (some ⟨rq6.g, 0, none⟩) 67 rq6.cap), (57, .int .i64 ((k : Nat) : Int)), (58, .pointer (some ⟨rq6.g, (0 + (k) * 1), none⟩)), (59, .int .i64 (((digL fo).getD k 0 : Nat) : Int)), (60, .slice (some ⟨rq8.g, 0, none⟩) 67 rq8.cap), (61, .int .i64 ((k : Nat) : Int)), (62, .pointer (some ⟨rq8.g, (0 + (k) * 1), none⟩)), (63, .int .i64 (((digL ft).getD k 0 : Nat) : Int)), (64, .bool (decide ((digL ft).getD k 0 < (digL fo).getD k 0))), (65, .bool (decide ((digL ft).getD k 0 < (digL fo).getD k 0))), (8, .bool (decide ((digL ft).getD k 0 < (digL fo).getD k 0)))]) [54, 55, 56, 57, 58, 59, 60, 61, 62, 63, 64, 65, 8] [] [⟨true, rq6.g, .cells (sl (ints .i64 (digL fo)) rq6.rest) 3 (0, 0)⟩, ⟨true, rq8.g, .cells (sl (ints .i64 (digL ft)) rq8.rest) 3 (0, 0)⟩, ⟨true, aq2, .cells (arrF .u8 32 fo) 23 (0, 0)⟩, ⟨true, aq3, .cells (arrF .u8 32 ft) 23 (0, 0)⟩] [0, 1, 2, 3] 2 [(0, [8])] (by as_aux_lemma => kernel_rfl) (by as_aux_lemma => kernel_rfl) (by as_aux_lemma => kernel_rfl) (fun β => rfl) trivial ⟨?_, ?_, ?_, ?_, ?_, ?_, ?_, ?_, ?_, ?_, ?_, ?_, ?_, trivial⟩ ?_
        · exact E_val 93 (fun β => by as_aux_lemma => kernel_rfl) (fun β => .bool false) 54 rfl (fun β => by as_aux_lemma => kernel_rfl) 2 [] (by as_aux_lemma => kernel_rfl) rfl (fun β w hk hl hq => by as_aux_lemma => kernel_rfl)
        · exact E_val 93 (fun β => by as_aux_lemma => kernel_rfl) (fun β => .bool false) 55 rfl (fun β => by as_aux_lemma => kernel_rfl) 2 [] (by as_aux_lemma => kernel_rfl) rfl (fun β w hk hl hq => by as_aux_lemma => kernel_rfl)
        · exact E_val 93 (fun β => by as_aux_lemma => kernel_rfl) (fun β => .slice (some ⟨rq6.g, 0, none⟩) 67 rq6.cap) 56 rfl (fun β => by as_aux_lemma => kernel_rfl) 2 [] (by as_aux_lemma => kernel_rfl) rfl (fun β w hk hl hq => by as_aux_lemma => kernel_rfl)
        · exact E_val 93 (fun β => by as_aux_lemma => kernel_rfl) (fun β => .int .i64 ((k : Nat) : Int)) 57 rfl (fun β => by as_aux_lemma => kernel_rfl) 2 [] (by as_aux_lemma => kernel_rfl) rfl (fun β w hk hl hq => by as_aux_lemma => kernel_rfl)
        · exact E_val 93 (fun β => by as_aux_lemma => kernel_rfl) (fun β => .pointer (some ⟨rq6.g, (0 + (k) * 1), none⟩)) 58 rfl (fun β => by as_aux_lemma => kernel_rfl) 2 [] (by as_aux_lemma => kernel_rfl) rfl (fun β w hk hl hq => R_indexS (k := .i64) (g := rq6.g) (off := 0) (len := 67) (cap := rq6.cap) (x := (.tmp 56)) (y := (.tmp 57)) rfl Tryd.underlying25 (by as_aux_lemma => kernel_rfl) (k) (by as_aux_lemma => kernel_rfl) (by omega) (sz := 1) (by as_aux_lemma => kernel_rfl) w)
        · exact E_val 93 (fun β => by as_aux_lemma => kernel_rfl) (fun β => .int .i64 (((digL fo).getD k 0 : Nat) : Int)) 59 rfl (fun β => by as_aux_lemma => kernel_rfl) 2 [] (by as_aux_lemma => kernel_rfl) rfl (fun β w hk hl hq => ((fun β => R_cell (own := true) (g := rq6.g) (all := (sl (ints .i64 (digL fo)) rq6.rest)) (t := 3) (fr := (0, 0)) 0 (by as_aux_lemma => kernel_rfl) 3 (.tmp 58) rfl (0 + (k) * 1) (by as_aux_lemma => kernel_rfl) (.int .i64 (((digL fo).getD k 0 : Nat) : Int)) ((congrArg (fun q => ((sl (ints .i64 (digL fo)) rq6.rest))[q]?) (show (0 + (k) * 1) = k by omega)).trans (sl_get (ints_get (digD_get fo (by omega))))) _ Tryd.underlying3 rfl) : ∀ (β : Nat → SlR) w, HeldL (rdL _ β [] ++ [⟨true, rq6.g, .cells (sl (ints .i64 (digL fo)) rq6.rest) 3 (0, 0)⟩, ⟨true, rq8.g, .cells (sl (ints .i64 (digL ft)) rq8.rest) 3 (0, 0)⟩, ⟨true, aq2, .cells (arrF .u8 32 fo) 23 (0, 0)⟩, ⟨true, aq3, .cells (arrF .u8 32 ft) 23 (0, 0)⟩]) w → _) β w hl)
        · exact E_val 93 (fun β => by as_aux_lemma => kernel_rfl) (fun β => .slice (some ⟨rq8.g, 0, none⟩) 67 rq8.cap) 60 rfl (fun β => by as_aux_lemma => kernel_rfl) 2 [] (by as_aux_lemma => kernel_rfl) rfl (fun β w hk hl hq => by as_aux_lemma => kernel_rfl)
        · exact E_val 93 (fun β => by as_aux_lemma => kernel_rfl) (fun β => .int .i64 ((k : Nat) : Int)) 61 rfl (fun β => by as_aux_lemma => kernel_rfl) 2 [] (by as_aux_lemma => kernel_rfl) rfl (fun β w hk hl hq => by as_aux_lemma => kernel_rfl)
        · exact E_val 93 (fun β => by as_aux_lemma => kernel_rfl) (fun β => .pointer (some ⟨rq8.g, (0 + (k) * 1), none⟩)) 62 rfl (fun β => by as_aux_lemma => kernel_rfl) 2 [] (by as_aux_lemma => kernel_rfl) rfl (fun β w hk hl hq => R_indexS (k := .i64) (g := rq8.g) (off := 0) (len := 67) (cap := rq8.cap) (x := (.tmp 60)) (y := (.tmp 61)) rfl Tryd.underlying25 (by as_aux_lemma => kernel_rfl) (k) (by as_aux_lemma => kernel_rfl) (by omega) (sz := 1) (by as_aux_lemma => kernel_rfl) w)
        · exact E_val 93 (fun β => by as_aux_lemma => kernel_rfl) (fun β => .int .i64 (((digL ft).getD k 0 : Nat) : Int)) 63 rfl (fun β => by as_aux_lemma => kernel_rfl) 2 [] (by as_aux_lemma => kernel_rfl) rfl (fun β w hk hl hq => ((fun β => R_cell (own := true) (g := rq8.g) (all := (sl (ints .i64 (digL ft)) rq8.rest)) (t := 3) (fr := (0, 0)) 1 (by as_aux_lemma => kernel_rfl) 3 (.tmp 62) rfl (0 + (k) * 1) (by as_aux_lemma => kernel_rfl) (.int .i64 (((digL ft).getD k 0 : Nat) : Int)) ((congrArg (fun q => ((sl (ints .i64 (digL ft)) rq8.rest))[q]?) (show (0 + (k) * 1) = k by omega)).trans (sl_get (ints_get (digD_get ft (by omega))))) _ Tryd.underlying3 rfl) : ∀ (β : Nat → SlR) w, HeldL (rdL _ β [] ++ [⟨true, rq6.g, .cells (sl (ints .i64 (digL fo)) rq6.rest) 3 (0, 0)⟩, ⟨true, rq8.g, .cells (sl (ints .i64 (digL ft)) rq8.rest) 3 (0, 0)⟩, ⟨true, aq2, .cells (arrF .u8 32 fo) 23 (0, 0)⟩, ⟨true, aq3, .cells (arrF .u8 32 ft) 23 (0, 0)⟩]) w → _) β w hl)
        · exact E_val 93 (fun β => by as_aux_lemma => kernel_rfl) (fun β => .bool (decide ((digL ft).getD k 0 < (digL fo).getD k 0))) 64 rfl (fun β => by as_aux_lemma => kernel_rfl) 2 [] (by as_aux_lemma => kernel_rfl) rfl (fun β w hk hl hq => R_bin (x := (.tmp 59)) (y := (.tmp 63)) rfl (k := .i64) (a := (((digL fo).getD k 0 : Nat) : Int)) (b := (((digL ft).getD k 0 : Nat) : Int)) (by as_aux_lemma => kernel_rfl) (by as_aux_lemma => kernel_rfl) i_gtb w)
        · exact E_val 93 (fun β => by as_aux_lemma => kernel_rfl) (fun β => .bool (decide ((digL ft).getD k 0 < (digL fo).getD k 0))) 65 rfl (fun β => by as_aux_lemma => kernel_rfl) 2 [] (by as_aux_lemma => kernel_rfl) rfl (fun β w hk hl hq => by as_aux_lemma => kernel_rfl)
        · exact E_val 93 (fun β => by as_aux_lemma => kernel_rfl) (fun β => .bool (decide ((digL ft).getD k 0 < (digL fo).getD k 0))) 8 rfl (fun β => by as_aux_lemma => kernel_rfl) 2 [] (by as_aux_lemma => kernel_rfl) rfl (fun β w hk hl hq => by as_aux_lemma => kernel_rfl)
        clear F H; intro β a v Q F H
        replace H : Hp [] w [⟨true, rq6.g, .cells (sl (ints .i64 (digL fo)) rq6.rest) 3 (0, 0)⟩, ⟨true, rq8.g, .cells (sl (ints .i64 (digL ft)) rq8.rest) 3 (0, 0)⟩, ⟨true, aq2, .cells (arrF .u8 32 fo) 23 (0, 0)⟩, ⟨true, aq3, .cells (arrF .u8 32 ft) 23 (0, 0)⟩] v := H
        replace F : Fm 93 [] [(8, .bool (decide ((digL ft).getD k 0 < (digL fo).getD k 0))), (65, .bool (decide ((digL ft).getD k 0 < (digL fo).getD k 0))), (64, .bool (decide ((digL ft).getD k 0 < (digL fo).getD k 0))), (63, .int .i64 (((digL ft).getD k 0 : Nat) : Int)), (62, .pointer (some ⟨rq8.g, (0 + (k) * 1), none⟩)), (61, .int .i64 ((k : Nat) : Int)), (60, .slice (some ⟨rq8.g, 0, none⟩) 67 rq8.cap), (59, .int .i64 (((digL fo).getD k 0 : Nat) : Int)), (58, .pointer (some ⟨rq6.g, (0 + (k) * 1), none⟩)), (57, .int .i64 ((k : Nat) : Int)), (56, .slice (some ⟨rq6.g, 0, none⟩) 67 rq6.cap), (55, .bool false), (54, .bool false), (53, .bool false), (52, .bool false), (51, .int .i64 (((digL ft).getD k 0 : Nat) : Int)), (50, .pointer (some ⟨rq8.g, (0 + (k) * 1), none⟩)), (49, .int .i64 ((k : Nat) : Int)), (48, .slice (some ⟨rq8.g, 0, none⟩) 67 rq8.cap), (47, .bool false), (46, .bool false), (45, .bool false), (44, .int .i64 (((digL ft).getD k 0 : Nat) : Int)), (43, .pointer (some ⟨rq8.g, (0 + (k) * 1), none⟩)), (42, .int .i64 ((k : Nat) : Int)), (41, .slice (some ⟨rq8.g, 0, none⟩) 67 rq8.cap), (40, .bool false), (39, .bool false), (38, .bool false), (37, .int .i64 (((digL fo).getD k 0 : Nat) : Int)), (36, .pointer (some ⟨rq6.g, (0 + (k) * 1), none⟩)), (35, .int .i64 ((k : Nat) : Int)), (34, .slice (some ⟨rq6.g, 0, none⟩) 67 rq6.cap), (33, .bool false), (32, .bool false), (31, .int .i64 (((digL fo).getD k 0 : Nat) : Int)), (30, .pointer (some ⟨rq6.g, (0 + (k) * 1), none⟩)), (29, .int .i64 ((k : Nat) : Int)), (28, .slice (some ⟨rq6.g, 0, none⟩) 67 rq6.cap), (25, .bool true), (24, .int .i64 ((k : Nat) : Int)), (10, .int .i64 ((k : Nat) : Int)), (9, .bool (abv (digL ft) (digL fo) k)), (6, .slice (some ⟨rq6.g, 0, none⟩) 67 rq6.cap), (7, .slice (some ⟨rq8.g, 0, none⟩) 67 rq8.cap), (5, .bool true), (2, .pointer (some ⟨aq2, 0, none⟩)), (3, .pointer (some ⟨aq3, 0, none⟩))] a := F.weak _ (⟨rfl, ⟨rfl, ⟨rfl, ⟨rfl, ⟨rfl, ⟨rfl, ⟨rfl, ⟨rfl, ⟨rfl, ⟨rfl, ⟨rfl, ⟨rfl, ⟨rfl, ⟨rfl, ⟨rfl, ⟨rfl, ⟨rfl, ⟨rfl, ⟨rfl, ⟨rfl, ⟨rfl, ⟨rfl, ⟨rfl, ⟨rfl, ⟨rfl, ⟨rfl, ⟨rfl, ⟨rfl, ⟨rfl, ⟨rfl, ⟨rfl, ⟨rfl, ⟨rfl, ⟨rfl, ⟨rfl, ⟨rfl, ⟨rfl, ⟨rfl, ⟨rfl, ⟨rfl, ⟨rfl, ⟨rfl, ⟨rfl, ⟨rfl, ⟨rfl, ⟨rfl, ⟨rfl, ⟨rfl, trivial⟩⟩⟩⟩⟩⟩⟩⟩⟩⟩⟩⟩⟩⟩⟩⟩⟩⟩⟩⟩⟩⟩⟩⟩⟩⟩⟩⟩⟩⟩⟩⟩⟩⟩⟩⟩⟩⟩⟩⟩⟩⟩⟩⟩⟩⟩⟩⟩)
        clear Q
        refine ?_
        refine hN _ _ ?_ H
        replace F : Fm 93 [] [(10, .int .i64 ((k : Nat) : Int)), (8, .bool (decide ((digL ft).getD k 0 < (digL fo).getD k 0))), (9, .bool (abv (digL ft) (digL fo) k)), (6, .slice (some ⟨rq6.g, 0, none⟩) 67 rq6.cap), (7, .slice (some ⟨rq8.g, 0, none⟩) 67 rq8.cap), (5, .bool true), (2, .pointer (some ⟨aq2, 0, none⟩)), (3, .pointer (some ⟨aq3, 0, none⟩))] a := F.weak _ (⟨rfl, ⟨rfl, ⟨rfl, ⟨rfl, ⟨rfl, ⟨rfl, ⟨rfl, ⟨rfl, trivial⟩⟩⟩⟩⟩⟩⟩⟩)
        rw [show (abv (digL fo) (digL ft) (k + 1)) = ((abv (digL fo) (digL ft) k) || decide ((digL ft).getD k 0 < (digL fo).getD k 0)) from rfl, hsp]
        try rw [Bool.true_or]
        try rw [Bool.false_or]
        exact F
    clear hK20
    try clear K20
    refine C_lastK (fun K21 hK21 => ?_)
    refine (fun (hN : ∀ a v, Fm 93 [] [(10, .int .i64 ((k : Nat) : Int)), (8, .bool (abv (digL fo) (digL ft) (k + 1))), (9, .bool (abv (digL ft) (digL fo) (k + 1))), (6, .slice (some ⟨rq6.g, 0, none⟩) 67 rq6.cap), (7, .slice (some ⟨rq8.g, 0, none⟩) 67 rq8.cap), (5, .bool true), (2, .pointer (some ⟨aq2, 0, none⟩)), (3, .pointer (some ⟨aq3, 0, none⟩))] a → Hp [] w [⟨true, rq6.g, .cells (sl (ints .i64 (digL fo)) rq6.rest) 3 (0, 0)⟩, ⟨true, rq8.g, .cells (sl (ints .i64 (digL ft)) rq8.rest) 3 (0, 0)⟩, ⟨true, aq2, .cells (arrF .u8 32 fo) 23 (0, 0)⟩, ⟨true, aq3, .cells (arrF .u8 32 ft) 23 (0, 0)⟩] v → K21 a v) => ?_) (fun a v F H => hK21 _ _ ?_)
    · clear hK21
      rcases Bool.eq_false_or_eq_true ((abv (digL ft) (digL fo) k)) with hsp | hsp
      · rw [hsp] at F
        refine E_region F H (fun β => [(66, .bool true), (67, .bool true), (68, undef), (69, undef), (70, undef), (71, undef), (72, undef), (73, undef), (74, undef), (75, undef), (76, undef), (77, .bool true), (9, .bool true)]) [66, 67, 68, 69, 70, 71, 72, 73, 74, 75, 76, 77, 9] [] [⟨true, rq6.g, .cells (sl (ints .i64 (digL fo)) rq6.rest) 3 (0, 0)⟩, ⟨true, rq8.g, .cells (sl (ints .i64 (digL ft)) rq8.rest) 3 (0, 0)⟩, ⟨true, aq2, .cells (arrF .u8 32 fo) 23 (0, 0)⟩, ⟨true, aq3, .cells (arrF .u8 32 ft) 23 (0, 0)⟩] [0, 1, 2, 3] 2 [(0, [9])] (by as_aux_lemma => kernel_rfl) (by as_aux_lemma => kernel_rfl) (by as_aux_lemma => kernel_rfl) (fun β => rfl) trivial ⟨?_, ?_, ?_, ?_, ?_, ?_, ?_, ?_, ?_, ?_, ?_, ?_, ?_, trivial⟩ ?_
        · exact E_val 93 (fun β => by as_aux_lemma => kernel_rfl) (fun β => .bool true) 66 rfl (fun β => by as_aux_lemma => kernel_rfl) 2 [] (by as_aux_lemma => kernel_rfl) rfl (fun β w hk hl hq => by as_aux_lemma => kernel_rfl)
        · exact E_val 93 (fun β => by as_aux_lemma => kernel_rfl) (fun β => .bool true) 67 rfl (fun β => by as_aux_lemma => kernel_rfl) 2 [] (by as_aux_lemma => kernel_rfl) rfl (fun β w hk hl hq => by as_aux_lemma => kernel_rfl)
        · exact E_skip (fun β => by as_aux_lemma => kernel_rfl) 68 rfl (fun β => by as_aux_lemma => kernel_rfl) (by as_aux_lemma => kernel_rfl)
        · exact E_skip (fun β => by as_aux_lemma => kernel_rfl) 69 rfl (fun β => by as_aux_lemma => kernel_rfl) (by as_aux_lemma => kernel_rfl)
        · exact E_skip (fun β => by as_aux_lemma => kernel_rfl) 70 rfl (fun β => by as_aux_lemma => kernel_rfl) (by as_aux_lemma => kernel_rfl)
        · exact E_skip (fun β => by as_aux_lemma => kernel_rfl) 71 rfl (fun β => by as_aux_lemma => kernel_rfl) (by as_aux_lemma => kernel_rfl)
        · exact E_skip (fun β => by as_aux_lemma => kernel_rfl) 72 rfl (fun β => by as_aux_lemma => kernel_rfl) (by as_aux_lemma => kernel_rfl)
        · exact E_skip (fun β => by as_aux_lemma => kernel_rfl) 73 rfl (fun β => by as_aux_lemma => kernel_rfl) (by as_aux_lemma => kernel_rfl)
        · exact E_skip (fun β => by as_aux_lemma => kernel_rfl) 74 rfl (fun β => by as_aux_lemma => kernel_rfl) (by as_aux_lemma => kernel_rfl)
        · exact E_skip (fun β => by as_aux_lemma => kernel_rfl) 75 rfl (fun β => by as_aux_lemma => kernel_rfl) (by as_aux_lemma => kernel_rfl)
        · exact E_skip (fun β => by as_aux_lemma => kernel_rfl) 76 rfl (fun β => by as_aux_lemma => kernel_rfl) (by as_aux_lemma => kernel_rfl)
        · exact E_val 93 (fun β => by as_aux_lemma => kernel_rfl) (fun β => .bool true) 77 rfl (fun β => by as_aux_lemma => kernel_rfl) 2 [] (by as_aux_lemma => kernel_rfl) rfl (fun β w hk hl hq => by as_aux_lemma => kernel_rfl)
        · exact E_val 93 (fun β => by as_aux_lemma => kernel_rfl) (fun β => .bool true) 9 rfl (fun β => by as_aux_lemma => kernel_rfl) 2 [] (by as_aux_lemma => kernel_rfl) rfl (fun β w hk hl hq => by as_aux_lemma => kernel_rfl)
        clear F H; intro β a v Q F H
        replace H : Hp [] w [⟨true, rq6.g, .cells (sl (ints .i64 (digL fo)) rq6.rest) 3 (0, 0)⟩, ⟨true, rq8.g, .cells (sl (ints .i64 (digL ft)) rq8.rest) 3 (0, 0)⟩, ⟨true, aq2, .cells (arrF .u8 32 fo) 23 (0, 0)⟩, ⟨true, aq3, .cells (arrF .u8 32 ft) 23 (0, 0)⟩] v := H
        replace F : Fm 93 [] [(9, .bool true), (77, .bool true), (76, undef), (75, undef), (74, undef), (73, undef), (72, undef), (71, undef), (70, undef), (69, undef), (68, undef), (67, .bool true), (66, .bool true), (10, .int .i64 ((k : Nat) : Int)), (8, .bool (abv (digL fo) (digL ft) (k + 1))), (6, .slice (some ⟨rq6.g, 0, none⟩) 67 rq6.cap), (7, .slice (some ⟨rq8.g, 0, none⟩) 67 rq8.cap), (5, .bool true), (2, .pointer (some ⟨aq2, 0, none⟩)), (3, .pointer (some ⟨aq3, 0, none⟩))] a := F.weak _ (⟨rfl, ⟨rfl, ⟨rfl, ⟨rfl, ⟨rfl, ⟨rfl, ⟨rfl, ⟨rfl, ⟨rfl, ⟨rfl, ⟨rfl, ⟨rfl, ⟨rfl, ⟨rfl, ⟨rfl, ⟨rfl, ⟨rfl, ⟨rfl, ⟨rfl, ⟨rfl, trivial⟩⟩⟩⟩⟩⟩⟩⟩⟩⟩⟩⟩⟩⟩⟩⟩⟩⟩⟩⟩)
        clear Q
        refine ?_
        refine hN _ _ ?_ H
        replace F : Fm 93 [] [(10, .int .i64 ((k : Nat) : Int)), (8, .bool (abv (digL fo) (digL ft) (k + 1))), (9, .bool true), (6, .slice (some ⟨rq6.g, 0, none⟩) 67 rq6.cap), (7, .slice (some ⟨rq8.g, 0, none⟩) 67 rq8.cap), (5, .bool true), (2, .pointer (some ⟨aq2, 0, none⟩)), (3, .pointer (some ⟨aq3, 0, none⟩))] a := F.weak _ (⟨rfl, ⟨rfl, ⟨rfl, ⟨rfl, ⟨rfl, ⟨rfl, ⟨rfl, ⟨rfl, trivial⟩⟩⟩⟩⟩⟩⟩⟩)
        rw [show (abv (digL ft) (digL fo) (k + 1)) = ((abv (digL ft) (digL fo) k) || decide ((digL fo).getD k 0 < (digL ft).getD k 0)) from rfl, hsp]
        try rw [Bool.true_or]
        try rw [Bool.false_or]
        exact F
      · rw [hsp] at F
        refine E_region F H (fun β => [(66, .bool false), (67, .bool false), (68, .slice (some ⟨rq6.g, 0, none⟩) 67 rq6.cap), (69, .int .i64 ((k : Nat) : Int)), (70, .pointer (some ⟨rq6.g, (0 + (k) * 1), none⟩)), (71, .int .i64 (((digL fo).getD k 0 : Nat) : Int)), (72, .slice (some ⟨rq8.g, 0, none⟩) 67 rq8.cap), (73, .int .i64 ((k : Nat) : Int)), (74, .pointer (some ⟨rq8.g, (0 + (k) * 1), none⟩)), (75, .int .i64 (((digL ft).getD k 0 : Nat) : Int)), (76, .bool (decide ((digL fo).getD k 0 < (digL ft).getD k 0))), (77, .bool (decide ((digL fo).getD k 0 < (digL ft).getD k 0))), (9, .bool (decide ((digL fo).getD k 0 < (digL ft).getD k 0)))]) [66, 67, 68, 69, 70, 71, 72, 73, 74, 75, 76, 77, 9] [] [⟨true, rq6.g, .cells (sl (ints .i64 (digL fo)) rq6.rest) 3 (0, 0)⟩, ⟨true, rq8.g, .cells (sl (ints .i64 (digL ft)) rq8.rest) 3 (0, 0)⟩, ⟨true, aq2, .cells (arrF .u8 32 fo) 23 (0, 0)⟩, ⟨true, aq3, .cells (arrF .u8 32 ft) 23 (0, 0)⟩] [0, 1, 2, 3] 2 [(0, [9])] (by as_aux_lemma => kernel_rfl) (by as_aux_lemma => kernel_rfl) (by as_aux_lemma => kernel_rfl) (fun β => rfl) trivial ⟨?_, ?_, ?_, ?_, ?_, ?_, ?_, ?_, ?_, ?_, ?_, ?_, ?_, trivial⟩ ?_
        · exact E_val 93 (fun β => by as_aux_lemma => kernel_rfl) (fun β => .bool false) 66 rfl (fun β => by as_aux_lemma => kernel_rfl) 2 [] (by as_aux_lemma => kernel_rfl) rfl (fun β w hk hl hq => by as_aux_lemma => kernel_rfl)
        · exact E_val 93 (fun β => by as_aux_lemma => kernel_rfl) (fun β => .bool false) 67 rfl (fun β => by as_aux_lemma => kernel_rfl) 2 [] (by as_aux_lemma => kernel_rfl) rfl (fun β w hk hl hq => by as_aux_lemma => kernel_rfl)
        · exact E_val 93 (fun β => by as_aux_lemma => kernel_rfl) (fun β => .slice (some ⟨rq6.g, 0, none⟩) 67 rq6.cap) 68 rfl (fun β => by as_aux_lemma => kernel_rfl) 2 [] (by as_aux_lemma => kernel_rfl) rfl (fun β w hk hl hq => by as_aux_lemma => kernel_rfl)
        · exact E_val 93 (fun β => by as_aux_lemma => kernel_rfl) (fun β => .int .i64 ((k : Nat) : Int)) 69 rfl (fun β => by as_aux_lemma => kernel_rfl) 2 [] (by as_aux_lemma => kernel_rfl) rfl (fun β w hk hl hq => by as_aux_lemma => kernel_rfl)
        · exact E_val 93 (fun β => by as_aux_lemma => kernel_rfl) (fun β => .pointer (some ⟨rq6.g, (0 + (k) * 1), none⟩)) 70 rfl (fun β => by as_aux_lemma => kernel_rfl) 2 [] (by as_aux_lemma => kernel_rfl) rfl (fun β w hk hl hq => R_indexS (k := .i64) (g := rq6.g) (off := 0) (len := 67) (cap := rq6.cap) (x := (.tmp 68)) (y := (.tmp 69)) rfl Tryd.underlying25 (by as_aux_lemma => kernel_rfl) (k) (by as_aux_lemma => kernel_rfl) (by omega) (sz := 1) (by as_aux_lemma => kernel_rfl) w)
        · exact E_val 93 (fun β => by as_aux_lemma => kernel_rfl) (fun β => .int .i64 (((digL fo).getD k 0 : Nat) : Int)) 71 rfl (fun β => by as_aux_lemma => kernel_rfl) 2 [] (by as_aux_lemma => kernel_rfl) rfl (fun β w hk hl hq => ((fun β => R_cell (own := true) (g := rq6.g) (all := (sl (ints .i64 (digL fo)) rq6.rest)) (t := 3) (fr := (0, 0)) 0 (by as_aux_lemma => kernel_rfl) 3 (.tmp 70) rfl (0 + (k) * 1) (by as_aux_lemma => kernel_rfl) (.int .i64 (((digL fo).getD k 0 : Nat) : Int)) ((congrArg (fun q => ((sl (ints .i64 (digL fo)) rq6.rest))[q]?) (show (0 + (k) * 1) = k by omega)).trans (sl_get (ints_get (digD_get fo (by omega))))) _ Tryd.underlying3 rfl) : ∀ (β : Nat → SlR) w, HeldL (rdL _ β [] ++ [⟨true, rq6.g, .cells (sl (ints .i64 (digL fo)) rq6.rest) 3 (0, 0)⟩, ⟨true, rq8.g, .cells (sl (ints .i64 (digL ft)) rq8.rest) 3 (0, 0)⟩, ⟨true, aq2, .cells (arrF .u8 32 fo) 23 (0, 0)⟩, ⟨true, aq3, .cells (arrF .u8 32 ft) 23 (0, 0)⟩]) w → _) β w hl)
        · exact E_val 93 (fun β => by as_aux_lemma => kernel_rfl) (fun β => .slice (some ⟨rq8.g, 0, none⟩) 67 rq8.cap) 72 rfl (fun β => by as_aux_lemma => kernel_rfl) 2 [] (by as_aux_lemma => kernel_rfl) rfl (fun β w hk hl hq => by as_aux_lemma => kernel_rfl)
        · exact E_val 93 (fun β => by as_aux_lemma => kernel_rfl) (fun β => .int .i64 ((k : Nat) : Int)) 73 rfl (fun β => by as_aux_lemma => kernel_rfl) 2 [] (by as_aux_lemma => kernel_rfl) rfl (fun β w hk hl hq => by as_aux_lemma => kernel_rfl)
        · exact E_val 93 (fun β => by as_aux_lemma => kernel_rfl) (fun β => .pointer (some ⟨rq8.g, (0 + (k) * 1), none⟩)) 74 rfl (fun β => by as_aux_lemma => kernel_rfl) 2 [] (by as_aux_lemma => kernel_rfl) rfl (fun β w hk hl hq => R_indexS (k := .i64) (g := rq8.g) (off := 0) (len := 67) (cap := rq8.cap) (x := (.tmp 72)) (y := (.tmp 73)) rfl Tryd.underlying25 (by as_aux_lemma => kernel_rfl) (k) (by as_aux_lemma => kernel_rfl) (by omega) (sz := 1) (by as_aux_lemma => kernel_rfl) w)
        · exact E_val 93 (fun β => by as_aux_lemma => kernel_rfl) (fun β => .int .i64 (((digL ft).getD k 0 : Nat) : Int)) 75 rfl (fun β => by as_aux_lemma => kernel_rfl) 2 [] (by as_aux_lemma => kernel_rfl) rfl (fun β w hk hl hq => ((fun β => R_cell (own := true) (g := rq8.g) (all := (sl (ints .i64 (digL ft)) rq8.rest)) (t := 3) (fr := (0, 0)) 1 (by as_aux_lemma => kernel_rfl) 3 (.tmp 74) rfl (0 + (k) * 1) (by as_aux_lemma => kernel_rfl) (.int .i64 (((digL ft).getD k 0 : Nat) : Int)) ((congrArg (fun q => ((sl (ints .i64 (digL ft)) rq8.rest))[q]?) (show (0 + (k) * 1) = k by omega)).trans (sl_get (ints_get (digD_get ft (by omega))))) _ Tryd.underlying3 rfl) : ∀ (β : Nat → SlR) w, HeldL (rdL _ β [] ++ [⟨true, rq6.g, .cells (sl (ints .i64 (digL fo)) rq6.rest) 3 (0, 0)⟩, ⟨true, rq8.g, .cells (sl (ints .i64 (digL ft)) rq8.rest) 3 (0, 0)⟩, ⟨true, aq2, .cells (arrF .u8 32 fo) 23 (0, 0)⟩, ⟨true, aq3, .cells (arrF .u8 32 ft) 23 (0, 0)⟩]) w → _) β w hl)
        · exact E_val 93 (fun β => by as_aux_lemma => kernel_rfl) (fun β => .bool (decide ((digL fo).getD k 0 < (digL ft).getD k 0))) 76 rfl (fun β => by as_aux_lemma => kernel_rfl) 2 [] (by as_aux_lemma => kernel_rfl) rfl (fun β w hk hl hq => R_bin (x := (.tmp 71)) (y := (.tmp 75)) rfl (k := .i64) (a := (((digL fo).getD k 0 : Nat) : Int)) (b := (((digL ft).getD k 0 : Nat) : Int)) (by as_aux_lemma => kernel_rfl) (by as_aux_lemma => kernel_rfl) i_ltn w)
        · exact E_val 93 (fun β => by as_aux_lemma => kernel_rfl) (fun β => .bool (decide ((digL fo).getD k 0 < (digL ft).getD k 0))) 77 rfl (fun β => by as_aux_lemma => kernel_rfl) 2 [] (by as_aux_lemma => kernel_rfl) rfl (fun β w hk hl hq => by as_aux_lemma => kernel_rfl)
        · exact E_val 93 (fun β => by as_aux_lemma => kernel_rfl) (fun β => .bool (decide ((digL fo).getD k 0 < (digL ft).getD k 0))) 9 rfl (fun β => by as_aux_lemma => kernel_rfl) 2 [] (by as_aux_lemma => kernel_rfl) rfl (fun β w hk hl hq => by as_aux_lemma => kernel_rfl)
        clear F H; intro β a v Q F H
        replace H : Hp [] w [⟨true, rq6.g, .cells (sl (ints .i64 (digL fo)) rq6.rest) 3 (0, 0)⟩, ⟨true, rq8.g, .cells (sl (ints .i64 (digL ft)) rq8.rest) 3 (0, 0)⟩, ⟨true, aq2, .cells (arrF .u8 32 fo) 23 (0, 0)⟩, ⟨true, aq3, .cells (arrF .u8 32 ft) 23 (0, 0)⟩] v := H
        replace F : Fm 93 [] [(9, .bool (decide ((digL fo).getD k 0 < (digL ft).getD k 0))), (77, .bool (decide ((digL fo).getD k 0 < (digL ft).getD k 0))), (76, .bool (decide ((digL fo).getD k 0 < (digL ft).getD k 0))), (75, .int .i64 (((digL ft).getD k 0 : Nat) : Int)), (74, .pointer (some ⟨rq8.g, (0 + (k) * 1), none⟩)), (73, .int .i64 ((k : Nat) : Int)), (72, .slice (some ⟨rq8.g, 0, none⟩) 67 rq8.cap), (71, .int .i64 (((digL fo).getD k 0 : Nat) : Int)), (70, .pointer (some ⟨rq6.g, (0 + (k) * 1), none⟩)), (69, .int .i64 ((k : Nat) : Int)), (68, .slice (some ⟨rq6.g, 0, none⟩) 67 rq6.cap), (67, .bool false), (66, .bool false), (10, .int .i64 ((k : Nat) : Int)), (8, .bool (abv (digL fo) (digL ft) (k + 1))), (6, .slice (some ⟨rq6.g, 0, none⟩) 67 rq6.cap), (7, .slice (some ⟨rq8.g, 0, none⟩) 67 rq8.cap), (5, .bool true), (2, .pointer (some ⟨aq2, 0, none⟩)), (3, .pointer (some ⟨aq3, 0, none⟩))] a := F.weak _ (⟨rfl, ⟨rfl, ⟨rfl, ⟨rfl, ⟨rfl, ⟨rfl, ⟨rfl, ⟨rfl, ⟨rfl, ⟨rfl, ⟨rfl, ⟨rfl, ⟨rfl, ⟨rfl, ⟨rfl, ⟨rfl, ⟨rfl, ⟨rfl, ⟨rfl, ⟨rfl, trivial⟩⟩⟩⟩⟩⟩⟩⟩⟩⟩⟩⟩⟩⟩⟩⟩⟩⟩⟩⟩)
        clear Q
        refine ?_
        refine hN _ _ ?_ H
        replace F : Fm 93 [] [(10, .int .i64 ((k : Nat) : Int)), (8, .bool (abv (digL fo) (digL ft) (k + 1))), (9, .bool (decide ((digL fo).getD k 0 < (digL ft).getD k 0))), (6, .slice (some ⟨rq6.g, 0, none⟩) 67 rq6.cap), (7, .slice (some ⟨rq8.g, 0, none⟩) 67 rq8.cap), (5, .bool true), (2, .pointer (some ⟨aq2, 0, none⟩)), (3, .pointer (some ⟨aq3, 0, none⟩))] a := F.weak _ (⟨rfl, ⟨rfl, ⟨rfl, ⟨rfl, ⟨rfl, ⟨rfl, ⟨rfl, ⟨rfl, trivial⟩⟩⟩⟩⟩⟩⟩⟩)
        rw [show (abv (digL ft) (digL fo) (k + 1)) = ((abv (digL ft) (digL fo) k) || decide ((digL fo).getD k 0 < (digL ft).getD k 0)) from rfl, hsp]
        try rw [Bool.true_or]
        try rw [Bool.false_or]
        exact F
    clear hK21
    try clear K21
    refine hK17 _ _ ?_
    clear hK17
    try clear K17
    refine C_region ?_
    refine T_val F H (by as_aux_lemma => kernel_rfl) (.int .i64 ((k : Nat) : Int)) (fun _ _ => by as_aux_lemma => kernel_rfl) ?_
    clear F; intro a F
    refine T_val F H (by as_aux_lemma => kernel_rfl) (.int .i64 ((k + 1 : Nat) : Int)) (fun w _ => R_bin (x := (.tmp 26)) (y := (.const (.int .i64 1))) rfl (k := .i64) (a := ((k : Nat) : Int)) (b := ((1 : Nat) : Int)) (by as_aux_lemma => kernel_rfl) (by as_aux_lemma => kernel_rfl) (i_addn64 (a := k) (b := 1) (by omega)) w) ?_
    clear F; intro a F
    refine T_val F H (by as_aux_lemma => kernel_rfl) (.int .i64 ((k + 1 : Nat) : Int)) (fun _ _ => by as_aux_lemma => kernel_rfl) ?_
    clear F; intro a F
    refine wpList_nil ?_
    replace F : Fm 93 [] [(10, .int .i64 ((k + 1 : Nat) : Int)), (8, .bool (abv (digL fo) (digL ft) (k + 1))), (9, .bool (abv (digL ft) (digL fo) (k + 1))), (6, .slice (some ⟨rq6.g, 0, none⟩) 67 rq6.cap), (7, .slice (some ⟨rq8.g, 0, none⟩) 67 rq8.cap), (5, .bool true), (2, .pointer (some ⟨aq2, 0, none⟩)), (3, .pointer (some ⟨aq3, 0, none⟩))] a := F.weak _ (⟨rfl, ⟨rfl, ⟨rfl, ⟨rfl, ⟨rfl, ⟨rfl, ⟨rfl, ⟨rfl, trivial⟩⟩⟩⟩⟩⟩⟩⟩)
    replace H : Hp [] w [⟨true, rq6.g, .cells (sl (ints .i64 (digL fo)) rq6.rest) 3 (0, 0)⟩, ⟨true, rq8.g, .cells (sl (ints .i64 (digL ft)) rq8.rest) 3 (0, 0)⟩, ⟨true, aq2, .cells (arrF .u8 32 fo) 23 (0, 0)⟩, ⟨true, aq3, .cells (arrF .u8 32 ft) 23 (0, 0)⟩] v := H
    exact ⟨m, Nat.lt_succ_self m, k + 1, by omega, F, H⟩
  have hkt : k = 67 := by omega
  try rw [hkt] at F
  try rw [hkt] at H
  clear hk
  refine C_seqK (fun K22 hK22 => ?_)
  refine C_seqK (fun K23 hK23 => ?_)
  refine C_region ?_
  refine T_val F H (by as_aux_lemma => kernel_rfl) (.int .i64 ((67 : Nat) : Int)) (fun _ _ => by as_aux_lemma => kernel_rfl) ?_
  clear F; intro a F
  refine T_val F H (by as_aux_lemma => kernel_rfl) (.bool false) (fun w _ => R_bin (x := (.tmp 24)) (y := (.const (.int .i64 67))) rfl (k := .i64) (a := ((67 : Nat) : Int)) (b := ((67 : Nat) : Int)) (by as_aux_lemma => kernel_rfl) (by as_aux_lemma => kernel_rfl) (i_nlt (by omega)) w) ?_
  clear F; intro a F
  refine wpList_nil ?_
  refine hK23 _ _ ?_
  clear hK23
  try clear K23
  refine C_if F false rfl rfl ?_
  refine wp_exit ?_
  refine hK13 _ _ ?_
  clear hK13
  try clear K13
  refine C_seqK (fun K24 hK24 => ?_)
  obtain ⟨bb, hbi⟩ : ∃ bb : Bool, (bb = true ↔ ∀ i, i < 32 → fo i = ft i) := ⟨@decide (∀ i, i < 32 → fo i = ft i) (Classical.propDecidable _), @decide_eq_true_iff _ (Classical.propDecidable _)⟩
  rw [abv_same hfo hft bb hbi, abv_same hft hfo bb (hbi.trans ⟨fun h i hi => (h i hi).symm, fun h i hi => (h i hi).symm⟩)] at F
  refine C_region ?_
  refine T_val F H (by as_aux_lemma => kernel_rfl) (.bool true) (fun _ _ => by as_aux_lemma => kernel_rfl) ?_
  clear F; intro a F
  refine T_val F H (by as_aux_lemma => kernel_rfl) (.bool true) (fun _ _ => by as_aux_lemma => kernel_rfl) ?_
  clear F; intro a F
  refine T_val F H (by as_aux_lemma => kernel_rfl) (.bool (!bb)) (fun _ _ => by as_aux_lemma => kernel_rfl) ?_
  clear F; intro a F
  refine T_val F H (by as_aux_lemma => kernel_rfl) (.agg (arrF .u8 32 fo)) (R_load (own := true) (g := aq2) (all := (arrF .u8 32 fo)) (t := 23) (fr := (0, 0)) 2 (by as_aux_lemma => kernel_rfl) 23 (.tmp 2) rfl 0 (by as_aux_lemma => kernel_rfl) (arrF .u8 32 fo) (part_all _) _ Tryd.underlying23 rfl (by rw [arrF_size]; kernel_rfl)) ?_
  clear F; intro a F
  refine T_val F H (by as_aux_lemma => kernel_rfl) (.agg (arrF .u8 32 ft)) (R_load (own := true) (g := aq3) (all := (arrF .u8 32 ft)) (t := 23) (fr := (0, 0)) 3 (by as_aux_lemma => kernel_rfl) 23 (.tmp 3) rfl 0 (by as_aux_lemma => kernel_rfl) (arrF .u8 32 ft) (part_all _) _ Tryd.underlying23 rfl (by rw [arrF_size]; kernel_rfl)) ?_
  clear F; intro a F
  refine T_val F H (by as_aux_lemma => kernel_rfl) (.bool (!bb)) (fun w _ => R_neK (x := (.tmp 81)) (y := (.tmp 82)) rfl fo ft (by as_aux_lemma => kernel_rfl) (by as_aux_lemma => kernel_rfl) bb hbi w) ?_
  clear F; intro a F
  refine T_val F H (by as_aux_lemma => kernel_rfl) (.bool true) (fun w _ => R_eqb (x := (.tmp 80)) (y := (.tmp 83)) rfl (a := !bb) (b := !bb) (by as_aux_lemma => kernel_rfl) (by as_aux_lemma => kernel_rfl) Tryd.underlying4 (beq_self_eq_true _) w) ?_
  clear F; intro a F
  refine T_val F H (by as_aux_lemma => kernel_rfl) (.bool true) (fun _ _ => by as_aux_lemma => kernel_rfl) ?_
  clear F; intro a F
  refine T_val F H (by as_aux_lemma => kernel_rfl) (.bool true) (fun _ _ => by as_aux_lemma => kernel_rfl) ?_
  clear F; intro a F
  refine T_val F H (by as_aux_lemma => kernel_rfl) (.bool (!bb)) (fun _ _ => by as_aux_lemma => kernel_rfl) ?_
  clear F; intro a F
  refine T_val F H (by as_aux_lemma => kernel_rfl) (.agg (arrF .u8 32 fo)) (R_load (own := true) (g := aq2) (all := (arrF .u8 32 fo)) (t := 23) (fr := (0, 0)) 2 (by as_aux_lemma => kernel_rfl) 23 (.tmp 2) rfl 0 (by as_aux_lemma => kernel_rfl) (arrF .u8 32 fo) (part_all _) _ Tryd.underlying23 rfl (by rw [arrF_size]; kernel_rfl)) ?_
  clear F; intro a F
  refine T_val F H (by as_aux_lemma => kernel_rfl) (.agg (arrF .u8 32 ft)) (R_load (own := true) (g := aq3) (all := (arrF .u8 32 ft)) (t := 23) (fr := (0, 0)) 3 (by as_aux_lemma => kernel_rfl) 23 (.tmp 3) rfl 0 (by as_aux_lemma => kernel_rfl) (arrF .u8 32 ft) (part_all _) _ Tryd.underlying23 rfl (by rw [arrF_size]; kernel_rfl)) ?_
  clear F; intro a F
  refine T_val F H (by as_aux_lemma => kernel_rfl) (.bool (!bb)) (fun w _ => R_neK (x := (.tmp 88)) (y := (.tmp 89)) rfl fo ft (by as_aux_lemma => kernel_rfl) (by as_aux_lemma => kernel_rfl) bb hbi w) ?_
  clear F; intro a F
  refine T_val F H (by as_aux_lemma => kernel_rfl) (.bool true) (fun w _ => R_eqb (x := (.tmp 87)) (y := (.tmp 90)) rfl (a := !bb) (b := !bb) (by as_aux_lemma => kernel_rfl) (by as_aux_lemma => kernel_rfl) Tryd.underlying4 (beq_self_eq_true _) w) ?_
  clear F; intro a F
  refine T_val F H (by as_aux_lemma => kernel_rfl) (.bool true) (fun _ _ => by as_aux_lemma => kernel_rfl) ?_
  clear F; intro a F
  refine T_val F H (by as_aux_lemma => kernel_rfl) (.bool true) (fun _ _ => by as_aux_lemma => kernel_rfl) ?_
  clear F; intro a F
  refine wpList_nil ?_
  refine hK24 _ _ ?_
  clear hK24
  try clear K24
  refine wp_ret ?_
  exact C_ret F H (rs := [.tmp 4]) rfl (vs := [.bool true]) (.tmp rfl .nil) (.bool true) rfl ⟨rfl, H.kept⟩

theorem i_gtz {k : IntKind} {a b : Int} (h : b < a) : intRes .gtr k a b = some (.bool true) := by simp [intRes, h]
theorem i_ngtz {k : IntKind} {a b : Int} (h : ¬ b < a) : intRes .gtr k a b = some (.bool false) := by simp [intRes]; omega

set_option maxRecDepth 100000 in
set_option maxHeartbeats 4000000 in
theorem parts1 (tg : Nat → Nat) (htg : ∀ i, i < 32 → tg i < 256) (ch : Int) (x y z : Int) (vv : Nat → Nat) (hvv : ∀ i, i < 32 → vv i < 256) (h1 : x < 0) (w : World) (hW : Laid w) : Calls Tryd.prog 7 #[.agg (arrF .u8 32 tg), .int .i64 ch, .int .i64 x, .int .i64 y, .int .i64 z, .agg (arrF .u8 32 vv)] w fun e w' => e = .returned (.bool true) ∧ Kept [] w w' := by
  refine C_enter Tryd.func7 rfl 91 Tryd.ntmps7 (Nat.le_of_ble_eq_true rfl) (fun a F => ?_)
  have H := Hp.start [] w
  replace F : Fm 91 [] [(0, .agg (arrF .u8 32 tg)), (1, .int .i64 ch), (2, .int .i64 x), (3, .int .i64 y), (4, .int .i64 z), (5, .agg (arrF .u8 32 vv))] a := F.weak _ (⟨rfl, ⟨rfl, ⟨rfl, ⟨rfl, ⟨rfl, ⟨rfl, trivial⟩⟩⟩⟩⟩⟩)
  refine C_seqK (fun K1 hK1 => ?_)
  refine C_region ?_
  refine T_new F H (by as_aux_lemma => kernel_rfl) (fun ad => .pointer (some ⟨ad, 0, none⟩)) (.cells (arrF .u8 32 tg) 23 (0, 0)) (fun w => by as_aux_lemma => kernel_rfl) ?_
  clear F H; intro aq2 a v F H
  refine T_new F H (by as_aux_lemma => kernel_rfl) (fun ad => .pointer (some ⟨ad, 0, none⟩)) (.cells (arrF .u8 32 vv) 23 (0, 0)) (fun w => by as_aux_lemma => kernel_rfl) ?_
  clear F H; intro aq3 a v F H
  refine T_val F H (by as_aux_lemma => kernel_rfl) (.bool false) (fun _ _ => by as_aux_lemma => kernel_rfl) ?_
  clear F; intro a F
  refine wpList_nil ?_
  refine hK1 _ _ ?_
  clear hK1
  try clear K1
  refine C_seqK (fun K4 hK4 => ?_)
  refine C_region ?_
  refine T_call F H (by as_aux_lemma => kernel_rfl) 15 #[] (.bool true) (fun w => by as_aux_lemma => kernel_rfl) (awake_any _ (hW.kept H.kept List.not_mem_nil List.not_mem_nil)) ?_
  clear F H; intro a v F H
  refine T_val F H (by as_aux_lemma => kernel_rfl) (.bool true) (fun _ _ => by as_aux_lemma => kernel_rfl) ?_
  clear F; intro a F
  refine wpList_nil ?_
  refine hK4 _ _ ?_
  clear hK4
  try clear K4
  refine C_seqK (fun K5 hK5 => ?_)
  refine C_seqK (fun K6 hK6 => ?_)
  refine C_region ?_
  refine T_val F H (by as_aux_lemma => kernel_rfl) (.int .i64 x) (fun _ _ => by as_aux_lemma => kernel_rfl) ?_
  clear F; intro a F
  refine T_val F H (by as_aux_lemma => kernel_rfl) (.bool true) (fun w _ => R_bin (x := (.tmp 20)) (y := (.const (.int .i64 0))) rfl (k := .i64) (a := x) (b := ((0 : Nat) : Int)) (by as_aux_lemma => kernel_rfl) (by as_aux_lemma => kernel_rfl) (i_lt (by omega)) w) ?_
  clear F; intro a F
  refine T_val F H (by as_aux_lemma => kernel_rfl) (.bool true) (fun _ _ => by as_aux_lemma => kernel_rfl) ?_
  clear F; intro a F
  refine T_skip F (by as_aux_lemma => kernel_rfl) (by as_aux_lemma => kernel_rfl) ?_
  clear F; intro a F
  refine T_skip F (by as_aux_lemma => kernel_rfl) (by as_aux_lemma => kernel_rfl) ?_
  clear F; intro a F
  refine T_skip F (by as_aux_lemma => kernel_rfl) (by as_aux_lemma => kernel_rfl) ?_
  clear F; intro a F
  refine T_val F H (by as_aux_lemma => kernel_rfl) (.bool true) (fun _ _ => by as_aux_lemma => kernel_rfl) ?_
  clear F; intro a F
  refine T_val F H (by as_aux_lemma => kernel_rfl) (.bool true) (fun _ _ => by as_aux_lemma => kernel_rfl) ?_
  clear F; intro a F
  refine T_skip F (by as_aux_lemma => kernel_rfl) (by as_aux_lemma => kernel_rfl) ?_
  clear F; intro a F
  refine T_skip F (by as_aux_lemma => kernel_rfl) (by as_aux_lemma => kernel_rfl) ?_
  clear F; intro a F
  refine T_skip F (by as_aux_lemma => kernel_rfl) (by as_aux_lemma => kernel_rfl) ?_
  clear F; intro a F
  refine T_val F H (by as_aux_lemma => kernel_rfl) (.bool true) (fun _ _ => by as_aux_lemma => kernel_rfl) ?_
  clear F; intro a F
  refine T_val F H (by as_aux_lemma => kernel_rfl) (.bool true) (fun _ _ => by as_aux_lemma => kernel_rfl) ?_
  clear F; intro a F
  refine T_skip F (by as_aux_lemma => kernel_rfl) (by as_aux_lemma => kernel_rfl) ?_
  clear F; intro a F
  refine T_skip F (by as_aux_lemma => kernel_rfl) (by as_aux_lemma => kernel_rfl) ?_
  clear F; intro a F
  refine T_val F H (by as_aux_lemma => kernel_rfl) (.bool true) (fun _ _ => by as_aux_lemma => kernel_rfl) ?_
  clear F; intro a F
  refine wpList_nil ?_
  refine hK6 _ _ ?_
  clear hK6
  try clear K6
  refine C_if F true rfl rfl ?_
  refine C_seqK (fun K7 hK7 => ?_)
  refine C_region ?_
  refine T_val F H (by as_aux_lemma => kernel_rfl) (.bool true) (fun _ _ => by as_aux_lemma => kernel_rfl) ?_
  clear F; intro a F
  refine T_val F H (by as_aux_lemma => kernel_rfl) (.bool true) (fun _ _ => by as_aux_lemma => kernel_rfl) ?_
  clear F; intro a F
  refine wpList_nil ?_
  refine hK7 _ _ ?_
  clear hK7
  try clear K7
  refine wp_ret ?_
  repeat (first | with_reducible refine then_ret ?_ | with_reducible refine inB_ret ?_)
  exact C_ret F H (rs := [.tmp 12]) rfl (vs := [.bool true]) (.tmp rfl .nil) (.bool true) rfl ⟨rfl, H.kept⟩

set_option maxRecDepth 100000 in
set_option maxHeartbeats 4000000 in
theorem parts2 (tg : Nat → Nat) (htg : ∀ i, i < 32 → tg i < 256) (ch : Int) (x y z : Int) (vv : Nat → Nat) (hvv : ∀ i, i < 32 → vv i < 256) (h1 : 0 ≤ x) (h2 : y < x) (w : World) (hW : Laid w) : Calls Tryd.prog 7 #[.agg (arrF .u8 32 tg), .int .i64 ch, .int .i64 x, .int .i64 y, .int .i64 z, .agg (arrF .u8 32 vv)] w fun e w' => e = .returned (.bool true) ∧ Kept [] w w' := by
  refine C_enter Tryd.func7 rfl 91 Tryd.ntmps7 (Nat.le_of_ble_eq_true rfl) (fun a F => ?_)
  have H := Hp.start [] w
  replace F : Fm 91 [] [(0, .agg (arrF .u8 32 tg)), (1, .int .i64 ch), (2, .int .i64 x), (3, .int .i64 y), (4, .int .i64 z), (5, .agg (arrF .u8 32 vv))] a := F.weak _ (⟨rfl, ⟨rfl, ⟨rfl, ⟨rfl, ⟨rfl, ⟨rfl, trivial⟩⟩⟩⟩⟩⟩)
  refine C_seqK (fun K1 hK1 => ?_)
  refine C_region ?_
  refine T_new F H (by as_aux_lemma => kernel_rfl) (fun ad => .pointer (some ⟨ad, 0, none⟩)) (.cells (arrF .u8 32 tg) 23 (0, 0)) (fun w => by as_aux_lemma => kernel_rfl) ?_
  clear F H; intro aq2 a v F H
  refine T_new F H (by as_aux_lemma => kernel_rfl) (fun ad => .pointer (some ⟨ad, 0, none⟩)) (.cells (arrF .u8 32 vv) 23 (0, 0)) (fun w => by as_aux_lemma => kernel_rfl) ?_
  clear F H; intro aq3 a v F H
  refine T_val F H (by as_aux_lemma => kernel_rfl) (.bool false) (fun _ _ => by as_aux_lemma => kernel_rfl) ?_
  clear F; intro a F
  refine wpList_nil ?_
  refine hK1 _ _ ?_
  clear hK1
  try clear K1
  refine C_seqK (fun K4 hK4 => ?_)
  refine C_region ?_
  refine T_call F H (by as_aux_lemma => kernel_rfl) 15 #[] (.bool true) (fun w => by as_aux_lemma => kernel_rfl) (awake_any _ (hW.kept H.kept List.not_mem_nil List.not_mem_nil)) ?_
  clear F H; intro a v F H
  refine T_val F H (by as_aux_lemma => kernel_rfl) (.bool true) (fun _ _ => by as_aux_lemma => kernel_rfl) ?_
  clear F; intro a F
  refine wpList_nil ?_
  refine hK4 _ _ ?_
  clear hK4
  try clear K4
  refine C_seqK (fun K5 hK5 => ?_)
  refine C_seqK (fun K6 hK6 => ?_)
  refine C_region ?_
  refine T_val F H (by as_aux_lemma => kernel_rfl) (.int .i64 x) (fun _ _ => by as_aux_lemma => kernel_rfl) ?_
  clear F; intro a F
  refine T_val F H (by as_aux_lemma => kernel_rfl) (.bool false) (fun w _ => R_bin (x := (.tmp 20)) (y := (.const (.int .i64 0))) rfl (k := .i64) (a := x) (b := ((0 : Nat) : Int)) (by as_aux_lemma => kernel_rfl) (by as_aux_lemma => kernel_rfl) (i_nlt (by omega)) w) ?_
  clear F; intro a F
  refine T_val F H (by as_aux_lemma => kernel_rfl) (.bool false) (fun _ _ => by as_aux_lemma => kernel_rfl) ?_
  clear F; intro a F
  refine T_val F H (by as_aux_lemma => kernel_rfl) (.int .i64 y) (fun _ _ => by as_aux_lemma => kernel_rfl) ?_
  clear F; intro a F
  refine T_val F H (by as_aux_lemma => kernel_rfl) (.int .i64 x) (fun _ _ => by as_aux_lemma => kernel_rfl) ?_
  clear F; intro a F
  refine T_val F H (by as_aux_lemma => kernel_rfl) (.bool true) (fun w _ => R_bin (x := (.tmp 23)) (y := (.tmp 24)) rfl (k := .i64) (a := y) (b := x) (by as_aux_lemma => kernel_rfl) (by as_aux_lemma => kernel_rfl) (i_lt (by omega)) w) ?_
  clear F; intro a F
  refine T_val F H (by as_aux_lemma => kernel_rfl) (.bool true) (fun _ _ => by as_aux_lemma => kernel_rfl) ?_
  clear F; intro a F
  refine T_val F H (by as_aux_lemma => kernel_rfl) (.bool true) (fun _ _ => by as_aux_lemma => kernel_rfl) ?_
  clear F; intro a F
  refine T_skip F (by as_aux_lemma => kernel_rfl) (by as_aux_lemma => kernel_rfl) ?_
  clear F; intro a F
  refine T_skip F (by as_aux_lemma => kernel_rfl) (by as_aux_lemma => kernel_rfl) ?_
  clear F; intro a F
  refine T_skip F (by as_aux_lemma => kernel_rfl) (by as_aux_lemma => kernel_rfl) ?_
  clear F; intro a F
  refine T_val F H (by as_aux_lemma => kernel_rfl) (.bool true) (fun _ _ => by as_aux_lemma => kernel_rfl) ?_
  clear F; intro a F
  refine T_val F H (by as_aux_lemma => kernel_rfl) (.bool true) (fun _ _ => by as_aux_lemma => kernel_rfl) ?_
  clear F; intro a F
  refine T_skip F (by as_aux_lemma => kernel_rfl) (by as_aux_lemma => kernel_rfl) ?_
  clear F; intro a F
  refine T_skip F (by as_aux_lemma => kernel_rfl) (by as_aux_lemma => kernel_rfl) ?_
  clear F; intro a F
  refine T_val F H (by as_aux_lemma => kernel_rfl) (.bool true) (fun _ _ => by as_aux_lemma => kernel_rfl) ?_
  clear F; intro a F
  refine wpList_nil ?_
  refine hK6 _ _ ?_
  clear hK6
  try clear K6
  refine C_if F true rfl rfl ?_
  refine C_seqK (fun K7 hK7 => ?_)
  refine C_region ?_
  refine T_val F H (by as_aux_lemma => kernel_rfl) (.bool true) (fun _ _ => by as_aux_lemma => kernel_rfl) ?_
  clear F; intro a F
  refine T_val F H (by as_aux_lemma => kernel_rfl) (.bool true) (fun _ _ => by as_aux_lemma => kernel_rfl) ?_
  clear F; intro a F
  refine wpList_nil ?_
  refine hK7 _ _ ?_
  clear hK7
  try clear K7
  refine wp_ret ?_
  repeat (first | with_reducible refine then_ret ?_ | with_reducible refine inB_ret ?_)
  exact C_ret F H (rs := [.tmp 12]) rfl (vs := [.bool true]) (.tmp rfl .nil) (.bool true) rfl ⟨rfl, H.kept⟩

set_option maxRecDepth 100000 in
set_option maxHeartbeats 4000000 in
theorem parts3 (tg : Nat → Nat) (htg : ∀ i, i < 32 → tg i < 256) (ch : Int) (x y z : Int) (vv : Nat → Nat) (hvv : ∀ i, i < 32 → vv i < 256) (h1 : 0 ≤ x) (h2 : x ≤ y) (h3 : z < y) (w : World) (hW : Laid w) : Calls Tryd.prog 7 #[.agg (arrF .u8 32 tg), .int .i64 ch, .int .i64 x, .int .i64 y, .int .i64 z, .agg (arrF .u8 32 vv)] w fun e w' => e = .returned (.bool true) ∧ Kept [] w w' := by
  refine C_enter Tryd.func7 rfl 91 Tryd.ntmps7 (Nat.le_of_ble_eq_true rfl) (fun a F => ?_)
  have H := Hp.start [] w
  replace F : Fm 91 [] [(0, .agg (arrF .u8 32 tg)), (1, .int .i64 ch), (2, .int .i64 x), (3, .int .i64 y), (4, .int .i64 z), (5, .agg (arrF .u8 32 vv))] a := F.weak _ (⟨rfl, ⟨rfl, ⟨rfl, ⟨rfl, ⟨rfl, ⟨rfl, trivial⟩⟩⟩⟩⟩⟩)
  refine C_seqK (fun K1 hK1 => ?_)
  refine C_region ?_
  refine T_new F H (by as_aux_lemma => kernel_rfl) (fun ad => .pointer (some ⟨ad, 0, none⟩)) (.cells (arrF .u8 32 tg) 23 (0, 0)) (fun w => by as_aux_lemma => kernel_rfl) ?_
  clear F H; intro aq2 a v F H
  refine T_new F H (by as_aux_lemma => kernel_rfl) (fun ad => .pointer (some ⟨ad, 0, none⟩)) (.cells (arrF .u8 32 vv) 23 (0, 0)) (fun w => by as_aux_lemma => kernel_rfl) ?_
  clear F H; intro aq3 a v F H
  refine T_val F H (by as_aux_lemma => kernel_rfl) (.bool false) (fun _ _ => by as_aux_lemma => kernel_rfl) ?_
  clear F; intro a F
  refine wpList_nil ?_
  refine hK1 _ _ ?_
  clear hK1
  try clear K1
  refine C_seqK (fun K4 hK4 => ?_)
  refine C_region ?_
  refine T_call F H (by as_aux_lemma => kernel_rfl) 15 #[] (.bool true) (fun w => by as_aux_lemma => kernel_rfl) (awake_any _ (hW.kept H.kept List.not_mem_nil List.not_mem_nil)) ?_
  clear F H; intro a v F H
  refine T_val F H (by as_aux_lemma => kernel_rfl) (.bool true) (fun _ _ => by as_aux_lemma => kernel_rfl) ?_
  clear F; intro a F
  refine wpList_nil ?_
  refine hK4 _ _ ?_
  clear hK4
  try clear K4
  refine C_seqK (fun K5 hK5 => ?_)
  refine C_seqK (fun K6 hK6 => ?_)
  refine C_region ?_
  refine T_val F H (by as_aux_lemma => kernel_rfl) (.int .i64 x) (fun _ _ => by as_aux_lemma => kernel_rfl) ?_
  clear F; intro a F
  refine T_val F H (by as_aux_lemma => kernel_rfl) (.bool false) (fun w _ => R_bin (x := (.tmp 20)) (y := (.const (.int .i64 0))) rfl (k := .i64) (a := x) (b := ((0 : Nat) : Int)) (by as_aux_lemma => kernel_rfl) (by as_aux_lemma => kernel_rfl) (i_nlt (by omega)) w) ?_
  clear F; intro a F
  refine T_val F H (by as_aux_lemma => kernel_rfl) (.bool false) (fun _ _ => by as_aux_lemma => kernel_rfl) ?_
  clear F; intro a F
  refine T_val F H (by as_aux_lemma => kernel_rfl) (.int .i64 y) (fun _ _ => by as_aux_lemma => kernel_rfl) ?_
  clear F; intro a F
  refine T_val F H (by as_aux_lemma => kernel_rfl) (.int .i64 x) (fun _ _ => by as_aux_lemma => kernel_rfl) ?_
  clear F; intro a F
  refine T_val F H (by as_aux_lemma => kernel_rfl) (.bool false) (fun w _ => R_bin (x := (.tmp 23)) (y := (.tmp 24)) rfl (k := .i64) (a := y) (b := x) (by as_aux_lemma => kernel_rfl) (by as_aux_lemma => kernel_rfl) (i_nlt (by omega)) w) ?_
  clear F; intro a F
  refine T_val F H (by as_aux_lemma => kernel_rfl) (.bool false) (fun _ _ => by as_aux_lemma => kernel_rfl) ?_
  clear F; intro a F
  refine T_val F H (by as_aux_lemma => kernel_rfl) (.bool false) (fun _ _ => by as_aux_lemma => kernel_rfl) ?_
  clear F; intro a F
  refine T_val F H (by as_aux_lemma => kernel_rfl) (.int .i64 z) (fun _ _ => by as_aux_lemma => kernel_rfl) ?_
  clear F; intro a F
  refine T_val F H (by as_aux_lemma => kernel_rfl) (.int .i64 y) (fun _ _ => by as_aux_lemma => kernel_rfl) ?_
  clear F; intro a F
  refine T_val F H (by as_aux_lemma => kernel_rfl) (.bool true) (fun w _ => R_bin (x := (.tmp 28)) (y := (.tmp 29)) rfl (k := .i64) (a := z) (b := y) (by as_aux_lemma => kernel_rfl) (by as_aux_lemma => kernel_rfl) (i_lt (by omega)) w) ?_
  clear F; intro a F
  refine T_val F H (by as_aux_lemma => kernel_rfl) (.bool true) (fun _ _ => by as_aux_lemma => kernel_rfl) ?_
  clear F; intro a F
  refine T_val F H (by as_aux_lemma => kernel_rfl) (.bool true) (fun _ _ => by as_aux_lemma => kernel_rfl) ?_
  clear F; intro a F
  refine T_skip F (by as_aux_lemma => kernel_rfl) (by as_aux_lemma => kernel_rfl) ?_
  clear F; intro a F
  refine T_skip F (by as_aux_lemma => kernel_rfl) (by as_aux_lemma => kernel_rfl) ?_
  clear F; intro a F
  refine T_val F H (by as_aux_lemma => kernel_rfl) (.bool true) (fun _ _ => by as_aux_lemma => kernel_rfl) ?_
  clear F; intro a F
  refine wpList_nil ?_
  refine hK6 _ _ ?_
  clear hK6
  try clear K6
  refine C_if F true rfl rfl ?_
  refine C_seqK (fun K7 hK7 => ?_)
  refine C_region ?_
  refine T_val F H (by as_aux_lemma => kernel_rfl) (.bool true) (fun _ _ => by as_aux_lemma => kernel_rfl) ?_
  clear F; intro a F
  refine T_val F H (by as_aux_lemma => kernel_rfl) (.bool true) (fun _ _ => by as_aux_lemma => kernel_rfl) ?_
  clear F; intro a F
  refine wpList_nil ?_
  refine hK7 _ _ ?_
  clear hK7
  try clear K7
  refine wp_ret ?_
  repeat (first | with_reducible refine then_ret ?_ | with_reducible refine inB_ret ?_)
  exact C_ret F H (rs := [.tmp 12]) rfl (vs := [.bool true]) (.tmp rfl .nil) (.bool true) rfl ⟨rfl, H.kept⟩

set_option maxRecDepth 100000 in
set_option maxHeartbeats 4000000 in
theorem parts4 (tg : Nat → Nat) (htg : ∀ i, i < 32 → tg i < 256) (ch : Int) (x y z : Int) (vv : Nat → Nat) (hvv : ∀ i, i < 32 → vv i < 256) (h1 : 0 ≤ x) (h2 : x ≤ y) (h3 : y ≤ z) (h4 : 40 < z) (w : World) (hW : Laid w) : Calls Tryd.prog 7 #[.agg (arrF .u8 32 tg), .int .i64 ch, .int .i64 x, .int .i64 y, .int .i64 z, .agg (arrF .u8 32 vv)] w fun e w' => e = .returned (.bool true) ∧ Kept [] w w' := by
  refine C_enter Tryd.func7 rfl 91 Tryd.ntmps7 (Nat.le_of_ble_eq_true rfl) (fun a F => ?_)
  have H := Hp.start [] w
  replace F : Fm 91 [] [(0, .agg (arrF .u8 32 tg)), (1, .int .i64 ch), (2, .int .i64 x), (3, .int .i64 y), (4, .int .i64 z), (5, .agg (arrF .u8 32 vv))] a := F.weak _ (⟨rfl, ⟨rfl, ⟨rfl, ⟨rfl, ⟨rfl, ⟨rfl, trivial⟩⟩⟩⟩⟩⟩)
  refine C_seqK (fun K1 hK1 => ?_)
  refine C_region ?_
  refine T_new F H (by as_aux_lemma => kernel_rfl) (fun ad => .pointer (some ⟨ad, 0, none⟩)) (.cells (arrF .u8 32 tg) 23 (0, 0)) (fun w => by as_aux_lemma => kernel_rfl) ?_
  clear F H; intro aq2 a v F H
  refine T_new F H (by as_aux_lemma => kernel_rfl) (fun ad => .pointer (some ⟨ad, 0, none⟩)) (.cells (arrF .u8 32 vv) 23 (0, 0)) (fun w => by as_aux_lemma => kernel_rfl) ?_
  clear F H; intro aq3 a v F H
  refine T_val F H (by as_aux_lemma => kernel_rfl) (.bool false) (fun _ _ => by as_aux_lemma => kernel_rfl) ?_
  clear F; intro a F
  refine wpList_nil ?_
  refine hK1 _ _ ?_
  clear hK1
  try clear K1
  refine C_seqK (fun K4 hK4 => ?_)
  refine C_region ?_
  refine T_call F H (by as_aux_lemma => kernel_rfl) 15 #[] (.bool true) (fun w => by as_aux_lemma => kernel_rfl) (awake_any _ (hW.kept H.kept List.not_mem_nil List.not_mem_nil)) ?_
  clear F H; intro a v F H
  refine T_val F H (by as_aux_lemma => kernel_rfl) (.bool true) (fun _ _ => by as_aux_lemma => kernel_rfl) ?_
  clear F; intro a F
  refine wpList_nil ?_
  refine hK4 _ _ ?_
  clear hK4
  try clear K4
  refine C_seqK (fun K5 hK5 => ?_)
  refine C_seqK (fun K6 hK6 => ?_)
  refine C_region ?_
  refine T_val F H (by as_aux_lemma => kernel_rfl) (.int .i64 x) (fun _ _ => by as_aux_lemma => kernel_rfl) ?_
  clear F; intro a F
  refine T_val F H (by as_aux_lemma => kernel_rfl) (.bool false) (fun w _ => R_bin (x := (.tmp 20)) (y := (.const (.int .i64 0))) rfl (k := .i64) (a := x) (b := ((0 : Nat) : Int)) (by as_aux_lemma => kernel_rfl) (by as_aux_lemma => kernel_rfl) (i_nlt (by omega)) w) ?_
  clear F; intro a F
  refine T_val F H (by as_aux_lemma => kernel_rfl) (.bool false) (fun _ _ => by as_aux_lemma => kernel_rfl) ?_
  clear F; intro a F
  refine T_val F H (by as_aux_lemma => kernel_rfl) (.int .i64 y) (fun _ _ => by as_aux_lemma => kernel_rfl) ?_
  clear F; intro a F
  refine T_val F H (by as_aux_lemma => kernel_rfl) (.int .i64 x) (fun _ _ => by as_aux_lemma => kernel_rfl) ?_
  clear F; intro a F
  refine T_val F H (by as_aux_lemma => kernel_rfl) (.bool false) (fun w _ => R_bin (x := (.tmp 23)) (y := (.tmp 24)) rfl (k := .i64) (a := y) (b := x) (by as_aux_lemma => kernel_rfl) (by as_aux_lemma => kernel_rfl) (i_nlt (by omega)) w) ?_
  clear F; intro a F
  refine T_val F H (by as_aux_lemma => kernel_rfl) (.bool false) (fun _ _ => by as_aux_lemma => kernel_rfl) ?_
  clear F; intro a F
  refine T_val F H (by as_aux_lemma => kernel_rfl) (.bool false) (fun _ _ => by as_aux_lemma => kernel_rfl) ?_
  clear F; intro a F
  refine T_val F H (by as_aux_lemma => kernel_rfl) (.int .i64 z) (fun _ _ => by as_aux_lemma => kernel_rfl) ?_
  clear F; intro a F
  refine T_val F H (by as_aux_lemma => kernel_rfl) (.int .i64 y) (fun _ _ => by as_aux_lemma => kernel_rfl) ?_
  clear F; intro a F
  refine T_val F H (by as_aux_lemma => kernel_rfl) (.bool false) (fun w _ => R_bin (x := (.tmp 28)) (y := (.tmp 29)) rfl (k := .i64) (a := z) (b := y) (by as_aux_lemma => kernel_rfl) (by as_aux_lemma => kernel_rfl) (i_nlt (by omega)) w) ?_
  clear F; intro a F
  refine T_val F H (by as_aux_lemma => kernel_rfl) (.bool false) (fun _ _ => by as_aux_lemma => kernel_rfl) ?_
  clear F; intro a F
  refine T_val F H (by as_aux_lemma => kernel_rfl) (.bool false) (fun _ _ => by as_aux_lemma => kernel_rfl) ?_
  clear F; intro a F
  refine T_val F H (by as_aux_lemma => kernel_rfl) (.int .i64 z) (fun _ _ => by as_aux_lemma => kernel_rfl) ?_
  clear F; intro a F
  refine T_val F H (by as_aux_lemma => kernel_rfl) (.bool true) (fun w _ => R_bin (x := (.tmp 33)) (y := (.const (.int .i64 40))) rfl (k := .i64) (a := z) (b := ((40 : Nat) : Int)) (by as_aux_lemma => kernel_rfl) (by as_aux_lemma => kernel_rfl) (i_gtz (by omega)) w) ?_
  clear F; intro a F
  refine T_val F H (by as_aux_lemma => kernel_rfl) (.bool true) (fun _ _ => by as_aux_lemma => kernel_rfl) ?_
  clear F; intro a F
  refine wpList_nil ?_
  refine hK6 _ _ ?_
  clear hK6
  try clear K6
  refine C_if F true rfl rfl ?_
  refine C_seqK (fun K7 hK7 => ?_)
  refine C_region ?_
  refine T_val F H (by as_aux_lemma => kernel_rfl) (.bool true) (fun _ _ => by as_aux_lemma => kernel_rfl) ?_
  clear F; intro a F
  refine T_val F H (by as_aux_lemma => kernel_rfl) (.bool true) (fun _ _ => by as_aux_lemma => kernel_rfl) ?_
  clear F; intro a F
  refine wpList_nil ?_
  refine hK7 _ _ ?_
  clear hK7
  try clear K7
  refine wp_ret ?_
  repeat (first | with_reducible refine then_ret ?_ | with_reducible refine inB_ret ?_)
  exact C_ret F H (rs := [.tmp 12]) rfl (vs := [.bool true]) (.tmp rfl .nil) (.bool true) rfl ⟨rfl, H.kept⟩

set_option maxRecDepth 100000 in
set_option maxHeartbeats 4000000 in
theorem parts5 (tg : Nat → Nat) (htg : ∀ i, i < 32 → tg i < 256) (ch : Int) (x y z : Nat) (vv : Nat → Nat) (hvv : ∀ i, i < 32 → vv i < 256) (h2 : x ≤ y) (h3 : y ≤ z) (h4 : z ≤ 40) (w : World) (hW : Laid w) : Calls Tryd.prog 7 #[.agg (arrF .u8 32 tg), .int .i64 ch, .int .i64 ((x : Nat) : Int), .int .i64 ((y : Nat) : Int), .int .i64 ((z : Nat) : Int), .agg (arrF .u8 32 vv)] w fun e w' => e = .returned (.bool true) ∧ Kept [] w w' := by
  refine C_enter Tryd.func7 rfl 91 Tryd.ntmps7 (Nat.le_of_ble_eq_true rfl) (fun a F => ?_)
  have H := Hp.start [] w
  replace F : Fm 91 [] [(0, .agg (arrF .u8 32 tg)), (1, .int .i64 ch), (2, .int .i64 ((x : Nat) : Int)), (3, .int .i64 ((y : Nat) : Int)), (4, .int .i64 ((z : Nat) : Int)), (5, .agg (arrF .u8 32 vv))] a := F.weak _ (⟨rfl, ⟨rfl, ⟨rfl, ⟨rfl, ⟨rfl, ⟨rfl, trivial⟩⟩⟩⟩⟩⟩)
  have hsum : alF tg ch ((x : Nat) : Int) vv (z - x) = alF tg ch ((y : Nat) : Int) (alF tg ch ((x : Nat) : Int) vv (y - x)) (z - y) := by
    rw [show z - x = (y - x) + (z - y) from by omega, alF_add, show ((x : Nat) : Int) + ((y - x : Nat) : Int) = ((y : Nat) : Int) from by omega]
  refine C_seqK (fun K1 hK1 => ?_)
  refine C_region ?_
  refine T_new F H (by as_aux_lemma => kernel_rfl) (fun ad => .pointer (some ⟨ad, 0, none⟩)) (.cells (arrF .u8 32 tg) 23 (0, 0)) (fun w => by as_aux_lemma => kernel_rfl) ?_
  clear F H; intro aq2 a v F H
  refine T_new F H (by as_aux_lemma => kernel_rfl) (fun ad => .pointer (some ⟨ad, 0, none⟩)) (.cells (arrF .u8 32 vv) 23 (0, 0)) (fun w => by as_aux_lemma => kernel_rfl) ?_
  clear F H; intro aq3 a v F H
  refine T_val F H (by as_aux_lemma => kernel_rfl) (.bool false) (fun _ _ => by as_aux_lemma => kernel_rfl) ?_
  clear F; intro a F
  refine wpList_nil ?_
  refine hK1 _ _ ?_
  clear hK1
  try clear K1
  refine C_seqK (fun K4 hK4 => ?_)
  refine C_region ?_
  refine T_call F H (by as_aux_lemma => kernel_rfl) 15 #[] (.bool true) (fun w => by as_aux_lemma => kernel_rfl) (awake_any _ (hW.kept H.kept List.not_mem_nil List.not_mem_nil)) ?_
  clear F H; intro a v F H
  refine T_val F H (by as_aux_lemma => kernel_rfl) (.bool true) (fun _ _ => by as_aux_lemma => kernel_rfl) ?_
  clear F; intro a F
  refine wpList_nil ?_
  refine hK4 _ _ ?_
  clear hK4
  try clear K4
  refine C_seqK (fun K5 hK5 => ?_)
  refine C_seqK (fun K6 hK6 => ?_)
  refine C_region ?_
  refine T_val F H (by as_aux_lemma => kernel_rfl) (.int .i64 ((x : Nat) : Int)) (fun _ _ => by as_aux_lemma => kernel_rfl) ?_
  clear F; intro a F
  refine T_val F H (by as_aux_lemma => kernel_rfl) (.bool false) (fun w _ => R_bin (x := (.tmp 20)) (y := (.const (.int .i64 0))) rfl (k := .i64) (a := ((x : Nat) : Int)) (b := ((0 : Nat) : Int)) (by as_aux_lemma => kernel_rfl) (by as_aux_lemma => kernel_rfl) (i_nlt (by omega)) w) ?_
  clear F; intro a F
  refine T_val F H (by as_aux_lemma => kernel_rfl) (.bool false) (fun _ _ => by as_aux_lemma => kernel_rfl) ?_
  clear F; intro a F
  refine T_val F H (by as_aux_lemma => kernel_rfl) (.int .i64 ((y : Nat) : Int)) (fun _ _ => by as_aux_lemma => kernel_rfl) ?_
  clear F; intro a F
  refine T_val F H (by as_aux_lemma => kernel_rfl) (.int .i64 ((x : Nat) : Int)) (fun _ _ => by as_aux_lemma => kernel_rfl) ?_
  clear F; intro a F
  refine T_val F H (by as_aux_lemma => kernel_rfl) (.bool false) (fun w _ => R_bin (x := (.tmp 23)) (y := (.tmp 24)) rfl (k := .i64) (a := ((y : Nat) : Int)) (b := ((x : Nat) : Int)) (by as_aux_lemma => kernel_rfl) (by as_aux_lemma => kernel_rfl) (i_nlt (by omega)) w) ?_
  clear F; intro a F
  refine T_val F H (by as_aux_lemma => kernel_rfl) (.bool false) (fun _ _ => by as_aux_lemma => kernel_rfl) ?_
  clear F; intro a F
  refine T_val F H (by as_aux_lemma => kernel_rfl) (.bool false) (fun _ _ => by as_aux_lemma => kernel_rfl) ?_
  clear F; intro a F
  refine T_val F H (by as_aux_lemma => kernel_rfl) (.int .i64 ((z : Nat) : Int)) (fun _ _ => by as_aux_lemma => kernel_rfl) ?_
  clear F; intro a F
  refine T_val F H (by as_aux_lemma => kernel_rfl) (.int .i64 ((y : Nat) : Int)) (fun _ _ => by as_aux_lemma => kernel_rfl) ?_
  clear F; intro a F
  refine T_val F H (by as_aux_lemma => kernel_rfl) (.bool false) (fun w _ => R_bin (x := (.tmp 28)) (y := (.tmp 29)) rfl (k := .i64) (a := ((z : Nat) : Int)) (b := ((y : Nat) : Int)) (by as_aux_lemma => kernel_rfl) (by as_aux_lemma => kernel_rfl) (i_nlt (by omega)) w) ?_
  clear F; intro a F
  refine T_val F H (by as_aux_lemma => kernel_rfl) (.bool false) (fun _ _ => by as_aux_lemma => kernel_rfl) ?_
  clear F; intro a F
  refine T_val F H (by as_aux_lemma => kernel_rfl) (.bool false) (fun _ _ => by as_aux_lemma => kernel_rfl) ?_
  clear F; intro a F
  refine T_val F H (by as_aux_lemma => kernel_rfl) (.int .i64 ((z : Nat) : Int)) (fun _ _ => by as_aux_lemma => kernel_rfl) ?_
  clear F; intro a F
  refine T_val F H (by as_aux_lemma => kernel_rfl) (.bool false) (fun w _ => R_bin (x := (.tmp 33)) (y := (.const (.int .i64 40))) rfl (k := .i64) (a := ((z : Nat) : Int)) (b := ((40 : Nat) : Int)) (by as_aux_lemma => kernel_rfl) (by as_aux_lemma => kernel_rfl) (i_ngtz (by omega)) w) ?_
  clear F; intro a F
  refine T_val F H (by as_aux_lemma => kernel_rfl) (.bool false) (fun _ _ => by as_aux_lemma => kernel_rfl) ?_
  clear F; intro a F
  refine wpList_nil ?_
  refine hK6 _ _ ?_
  clear hK6
  try clear K6
  refine C_if F false rfl rfl ?_
  refine wp_skip ?_
  refine hK5 _ _ ?_
  clear hK5
  try clear K5
  refine C_seqK (fun K7 hK7 => ?_)
  refine C_region ?_
  refine T_callX (α := SlR) F H (by as_aux_lemma => kernel_rfl) 18 #[.bool false] (fun rX => .pointer (some ⟨rX.g, 0, none⟩)) (fun rX => [⟨true, rX.g, .cells (mtr 0) 91 (0, 0)⟩, ⟨true, aq3, .cells (arrF .u8 32 vv) 23 (0, 0)⟩, ⟨true, aq2, .cells (arrF .u8 32 tg) 23 (0, 0)⟩]) (fun rX => True) (fun w => by as_aux_lemma => kernel_rfl) (fun w H => callsX_newV H (newM_any _)) ?_
  clear F H; intro rq8 a v Qrq8 F H
  refine T_val F H (by as_aux_lemma => kernel_rfl) (.pointer (some ⟨rq8.g, 0, none⟩)) (fun _ _ => by as_aux_lemma => kernel_rfl) ?_
  clear F; intro a F
  refine wpList_nil ?_
  generalize rq8.g = gm at F H
  refine hK7 _ _ ?_
  clear hK7
  try clear K7
  refine C_seqK (fun K9 hK9 => ?_)
  refine C_region ?_
  refine T_val F H (by as_aux_lemma => kernel_rfl) (.pointer (some ⟨gm, 0, none⟩)) (fun _ _ => by as_aux_lemma => kernel_rfl) ?_
  clear F; intro a F
  refine T_val F H (by as_aux_lemma => kernel_rfl) (.agg (arrF .u8 32 tg)) (R_load (own := true) (g := aq2) (all := (arrF .u8 32 tg)) (t := 23) (fr := (0, 0)) 2 (by as_aux_lemma => kernel_rfl) 23 (.tmp 6) rfl 0 (by as_aux_lemma => kernel_rfl) (arrF .u8 32 tg) (part_all _) _ Tryd.underlying23 rfl (by rw [arrF_size]; kernel_rfl)) ?_
  clear F; intro a F
  refine T_val F H (by as_aux_lemma => kernel_rfl) (.int .i64 ch) (fun _ _ => by as_aux_lemma => kernel_rfl) ?_
  clear F; intro a F
  refine T_val F H (by as_aux_lemma => kernel_rfl) (.int .i64 ((x : Nat) : Int)) (fun _ _ => by as_aux_lemma => kernel_rfl) ?_
  clear F; intro a F
  refine T_val F H (by as_aux_lemma => kernel_rfl) (.int .i64 ((z : Nat) : Int)) (fun _ _ => by as_aux_lemma => kernel_rfl) ?_
  clear F; intro a F
  refine T_val F H (by as_aux_lemma => kernel_rfl) (.agg (arrF .u8 32 vv)) (R_load (own := true) (g := aq3) (all := (arrF .u8 32 vv)) (t := 23) (fr := (0, 0)) 1 (by as_aux_lemma => kernel_rfl) 23 (.tmp 11) rfl 0 (by as_aux_lemma => kernel_rfl) (arrF .u8 32 vv) (part_all _) _ Tryd.underlying23 rfl (by rw [arrF_size]; kernel_rfl)) ?_
  clear F; intro a F
  refine T_callX (α := SlR) F H (by as_aux_lemma => kernel_rfl) 19 #[.pointer (some ⟨gm, 0, none⟩), .agg (arrF .u8 32 tg), .int .i64 ch, .int .i64 ((x : Nat) : Int), .int .i64 ((z : Nat) : Int), .agg (arrF .u8 32 vv)] (fun rX => .agg (arrF .u8 32 (alF tg ch ((x : Nat) : Int) vv (z - x)))) (fun rX => [⟨true, gm, .cells (mtr rX.n) 91 (0, 0)⟩, ⟨true, aq3, .cells (arrF .u8 32 vv) 23 (0, 0)⟩, ⟨true, aq2, .cells (arrF .u8 32 tg) 23 (0, 0)⟩]) (fun rX => rX.n = 0 + (z - x)) (fun w => by as_aux_lemma => kernel_rfl) (fun w H => callsX_putV H (k := 0) rfl ((along_any gm 0 tg htg ch ((x : Nat) : Int) ((z : Nat) : Int) (by omega) (by omega) vv hvv _ (hW.kept H.kept List.not_mem_nil List.not_mem_nil) (H.at_ (k := 0) rfl)).mono (fun _ _ ⟨r, q1, q2, q3, q4⟩ => ⟨r, by (rw [q1, show (((z : Nat) : Int) - ((x : Nat) : Int)).toNat = z - x from by omega]) <;> rfl, by have q5 := q2; rw [show (((z : Nat) : Int) - ((x : Nat) : Int)).toNat = z - x from by omega] at q5; exact q5, q3, q4⟩))) ?_
  clear F H; intro rq10 a v Qrq10 F H
  refine T_new F H (by as_aux_lemma => kernel_rfl) (fun ad => .pointer (some ⟨ad, 0, none⟩)) (.cells #[.int .u8 0, .int .u8 0, .int .u8 0, .int .u8 0, .int .u8 0, .int .u8 0, .int .u8 0, .int .u8 0, .int .u8 0, .int .u8 0, .int .u8 0, .int .u8 0, .int .u8 0, .int .u8 0, .int .u8 0, .int .u8 0, .int .u8 0, .int .u8 0, .int .u8 0, .int .u8 0, .int .u8 0, .int .u8 0, .int .u8 0, .int .u8 0, .int .u8 0, .int .u8 0, .int .u8 0, .int .u8 0, .int .u8 0, .int .u8 0, .int .u8 0, .int .u8 0] 23 (0, 0)) (fun w => by as_aux_lemma => kernel_rfl) ?_
  clear F H; intro aq11 a v F H
  refine T_set F H (by as_aux_lemma => kernel_rfl) rfl 0 rfl (arrF .u8 32 (alF tg ch ((x : Nat) : Int) vv (z - x))) (S_row 0 rfl 23 (.tmp 15) (.tmp 44) rfl (by as_aux_lemma => kernel_rfl) (arrF .u8 32 (alF tg ch ((x : Nat) : Int) vv (z - x))) (by as_aux_lemma => kernel_rfl) (by rw [arrF_size]; kernel_rfl) (by rw [arrF_size]; kernel_rfl) (arrF_one _ _ _)) [⟨true, aq11, .cells (arrF .u8 32 (alF tg ch ((x : Nat) : Int) vv (z - x))) 23 (0, 0)⟩, ⟨true, gm, .cells (mtr rq10.n) 91 (0, 0)⟩, ⟨true, aq3, .cells (arrF .u8 32 vv) 23 (0, 0)⟩, ⟨true, aq2, .cells (arrF .u8 32 tg) 23 (0, 0)⟩] rfl ?_
  clear F H; intro a v F H
  refine wpList_nil ?_
  refine hK9 _ _ ?_
  clear hK9
  try clear K9
  refine C_seqK (fun K12 hK12 => ?_)
  refine E_region F H (fun β => [(45, .pointer (some ⟨gm, 0, none⟩)), (46, .agg (arrF .u8 32 tg)), (47, .int .i64 ch), (48, .int .i64 ((y : Nat) : Int)), (49, .int .i64 ((z : Nat) : Int)), (50, .pointer (some ⟨gm, 0, none⟩)), (51, .agg (arrF .u8 32 tg)), (52, .int .i64 ch), (53, .int .i64 ((x : Nat) : Int)), (54, .int .i64 ((y : Nat) : Int)), (55, .agg (arrF .u8 32 vv)), (56, .agg (arrF .u8 32 (alF tg ch ((x : Nat) : Int) vv (y - x)))), (57, .agg (arrF .u8 32 (alF tg ch ((y : Nat) : Int) (alF tg ch ((x : Nat) : Int) vv (y - x)) (z - y)))), (16, .pointer (some ⟨(β 13).g, 0, none⟩))]) [45, 46, 47, 48, 49, 50, 51, 52, 53, 54, 55, 56, 57, 16] [⟨some 13, none, 0, [], fun gl_ => .cells #[.int .u8 0, .int .u8 0, .int .u8 0, .int .u8 0, .int .u8 0, .int .u8 0, .int .u8 0, .int .u8 0, .int .u8 0, .int .u8 0, .int .u8 0, .int .u8 0, .int .u8 0, .int .u8 0, .int .u8 0, .int .u8 0, .int .u8 0, .int .u8 0, .int .u8 0, .int .u8 0, .int .u8 0, .int .u8 0, .int .u8 0, .int .u8 0, .int .u8 0, .int .u8 0, .int .u8 0, .int .u8 0, .int .u8 0, .int .u8 0, .int .u8 0, .int .u8 0] 23 (0, 0), fun gl_ => True, [⟨14, [], fun gl_ => .cells (arrF .u8 32 (alF tg ch ((y : Nat) : Int) (alF tg ch ((x : Nat) : Int) vv (y - x)) (z - y))) 23 (0, 0), fun gl_ => True⟩]⟩,
    ⟨none, none, gm, [], fun gl_ => .cells (mtr rq10.n) 91 (0, 0), fun gl_ => True, [⟨11, [11], fun gl_ => .cells (mtr (gh gl_ 0).n) 91 (0, 0), fun gl_ => (gh gl_ 0).n = rq10.n + (y - x)⟩, ⟨12, [11, 12], fun gl_ => .cells (mtr (gh gl_ 1).n) 91 (0, 0), fun gl_ => (gh gl_ 1).n = (gh gl_ 0).n + (z - y)⟩]⟩] [⟨true, aq11, .cells (arrF .u8 32 (alF tg ch ((x : Nat) : Int) vv (z - x))) 23 (0, 0)⟩, ⟨true, aq3, .cells (arrF .u8 32 vv) 23 (0, 0)⟩, ⟨true, aq2, .cells (arrF .u8 32 tg) 23 (0, 0)⟩] [1, 0, 2, 3] 2 [] (by as_aux_lemma => kernel_rfl) (by as_aux_lemma => kernel_rfl) (by as_aux_lemma => kernel_rfl) (fun β => rfl) ⟨fun h _ => Bool.noConfusion h, ⟨fun _ _ => trivial, trivial⟩⟩ ⟨?_, ?_, ?_, ?_, ?_, ?_, ?_, ?_, ?_, ?_, ?_, ?_, ?_, ?_, ?_, trivial⟩ ?_
  · exact E_val 91 (fun β => by as_aux_lemma => kernel_rfl) (fun β => .pointer (some ⟨gm, 0, none⟩)) 45 rfl (fun β => by as_aux_lemma => kernel_rfl) 2 [] (by as_aux_lemma => kernel_rfl) rfl (fun β w hk hl hq => by as_aux_lemma => kernel_rfl)
  · exact E_val 91 (fun β => by as_aux_lemma => kernel_rfl) (fun β => .agg (arrF .u8 32 tg)) 46 rfl (fun β => by as_aux_lemma => kernel_rfl) 2 [] (by as_aux_lemma => kernel_rfl) rfl (fun β w hk hl hq => ((fun β => R_load (own := true) (g := aq2) (all := (arrF .u8 32 tg)) (t := 23) (fr := (0, 0)) 2 (by as_aux_lemma => kernel_rfl) 23 (.tmp 6) rfl 0 (by as_aux_lemma => kernel_rfl) (arrF .u8 32 tg) (part_all _) _ Tryd.underlying23 rfl (by rw [arrF_size]; kernel_rfl)) : ∀ (β : Nat → SlR) w, HeldL (rdL _ β [] ++ [⟨true, aq11, .cells (arrF .u8 32 (alF tg ch ((x : Nat) : Int) vv (z - x))) 23 (0, 0)⟩, ⟨true, aq3, .cells (arrF .u8 32 vv) 23 (0, 0)⟩, ⟨true, aq2, .cells (arrF .u8 32 tg) 23 (0, 0)⟩]) w → _) β w hl)
  · exact E_val 91 (fun β => by as_aux_lemma => kernel_rfl) (fun β => .int .i64 ch) 47 rfl (fun β => by as_aux_lemma => kernel_rfl) 2 [] (by as_aux_lemma => kernel_rfl) rfl (fun β w hk hl hq => by as_aux_lemma => kernel_rfl)
  · exact E_val 91 (fun β => by as_aux_lemma => kernel_rfl) (fun β => .int .i64 ((y : Nat) : Int)) 48 rfl (fun β => by as_aux_lemma => kernel_rfl) 2 [] (by as_aux_lemma => kernel_rfl) rfl (fun β w hk hl hq => by as_aux_lemma => kernel_rfl)
  · exact E_val 91 (fun β => by as_aux_lemma => kernel_rfl) (fun β => .int .i64 ((z : Nat) : Int)) 49 rfl (fun β => by as_aux_lemma => kernel_rfl) 2 [] (by as_aux_lemma => kernel_rfl) rfl (fun β w hk hl hq => by as_aux_lemma => kernel_rfl)
  · exact E_val 91 (fun β => by as_aux_lemma => kernel_rfl) (fun β => .pointer (some ⟨gm, 0, none⟩)) 50 rfl (fun β => by as_aux_lemma => kernel_rfl) 2 [] (by as_aux_lemma => kernel_rfl) rfl (fun β w hk hl hq => by as_aux_lemma => kernel_rfl)
  · exact E_val 91 (fun β => by as_aux_lemma => kernel_rfl) (fun β => .agg (arrF .u8 32 tg)) 51 rfl (fun β => by as_aux_lemma => kernel_rfl) 2 [] (by as_aux_lemma => kernel_rfl) rfl (fun β w hk hl hq => ((fun β => R_load (own := true) (g := aq2) (all := (arrF .u8 32 tg)) (t := 23) (fr := (0, 0)) 2 (by as_aux_lemma => kernel_rfl) 23 (.tmp 6) rfl 0 (by as_aux_lemma => kernel_rfl) (arrF .u8 32 tg) (part_all _) _ Tryd.underlying23 rfl (by rw [arrF_size]; kernel_rfl)) : ∀ (β : Nat → SlR) w, HeldL (rdL _ β [] ++ [⟨true, aq11, .cells (arrF .u8 32 (alF tg ch ((x : Nat) : Int) vv (z - x))) 23 (0, 0)⟩, ⟨true, aq3, .cells (arrF .u8 32 vv) 23 (0, 0)⟩, ⟨true, aq2, .cells (arrF .u8 32 tg) 23 (0, 0)⟩]) w → _) β w hl)
  · exact E_val 91 (fun β => by as_aux_lemma => kernel_rfl) (fun β => .int .i64 ch) 52 rfl (fun β => by as_aux_lemma => kernel_rfl) 2 [] (by as_aux_lemma => kernel_rfl) rfl (fun β w hk hl hq => by as_aux_lemma => kernel_rfl)
  · exact E_val 91 (fun β => by as_aux_lemma => kernel_rfl) (fun β => .int .i64 ((x : Nat) : Int)) 53 rfl (fun β => by as_aux_lemma => kernel_rfl) 2 [] (by as_aux_lemma => kernel_rfl) rfl (fun β w hk hl hq => by as_aux_lemma => kernel_rfl)
  · exact E_val 91 (fun β => by as_aux_lemma => kernel_rfl) (fun β => .int .i64 ((y : Nat) : Int)) 54 rfl (fun β => by as_aux_lemma => kernel_rfl) 2 [] (by as_aux_lemma => kernel_rfl) rfl (fun β w hk hl hq => by as_aux_lemma => kernel_rfl)
  · exact E_val 91 (fun β => by as_aux_lemma => kernel_rfl) (fun β => .agg (arrF .u8 32 vv)) 55 rfl (fun β => by as_aux_lemma => kernel_rfl) 2 [] (by as_aux_lemma => kernel_rfl) rfl (fun β w hk hl hq => ((fun β => R_load (own := true) (g := aq3) (all := (arrF .u8 32 vv)) (t := 23) (fr := (0, 0)) 1 (by as_aux_lemma => kernel_rfl) 23 (.tmp 11) rfl 0 (by as_aux_lemma => kernel_rfl) (arrF .u8 32 vv) (part_all _) _ Tryd.underlying23 rfl (by rw [arrF_size]; kernel_rfl)) : ∀ (β : Nat → SlR) w, HeldL (rdL _ β [] ++ [⟨true, aq11, .cells (arrF .u8 32 (alF tg ch ((x : Nat) : Int) vv (z - x))) 23 (0, 0)⟩, ⟨true, aq3, .cells (arrF .u8 32 vv) 23 (0, 0)⟩, ⟨true, aq2, .cells (arrF .u8 32 tg) 23 (0, 0)⟩]) w → _) β w hl)
  · exact E_callP 91 (fun β => by as_aux_lemma => kernel_rfl) (fun β => .agg (arrF .u8 32 (alF tg ch ((x : Nat) : Int) vv (y - x)))) 56 rfl (fun β => by as_aux_lemma => kernel_rfl) 2 (fun β r => ⟨rfl, .inr (.inr rfl), ⟨rfl, .inr (.inr rfl), ⟨rfl, .inr (.inr rfl), ⟨rfl, .inr (.inr rfl), ⟨rfl, .inr (.inr rfl), ⟨rfl, .inr (.inr rfl), ⟨rfl, .inr (.inr rfl), ⟨rfl, .inr (.inr rfl), ⟨rfl, .inr (.inr rfl), ⟨rfl, .inr (.inr rfl), ⟨rfl, .inr (.inr rfl), ⟨rfl, .inl rfl, ⟨rfl, .inr (.inr rfl), ⟨rfl, .inr (.inr rfl), trivial⟩⟩⟩⟩⟩⟩⟩⟩⟩⟩⟩⟩⟩⟩) 19 (fun β => #[.pointer (some ⟨gm, 0, none⟩), .agg (arrF .u8 32 tg), .int .i64 ch, .int .i64 ((x : Nat) : Int), .int .i64 ((y : Nat) : Int), .agg (arrF .u8 32 vv)]) (fun β w => by as_aux_lemma => kernel_rfl) 2 [] 1 0 _ _ rfl rfl (by as_aux_lemma => kernel_rfl) (by as_aux_lemma => kernel_rfl) rfl (fun β w hk hl hq hm => (along_any gm rq10.n tg htg ch ((x : Nat) : Int) ((y : Nat) : Int) (by omega) (by omega) vv hvv _ (hW.kept hk List.not_mem_nil List.not_mem_nil) hm).mono (fun _ _ ⟨r, q1, q2, q3, q4⟩ => ⟨r, by (rw [q1, show (((y : Nat) : Int) - ((x : Nat) : Int)).toNat = y - x from by omega]) <;> rfl, by have q5 := q2; rw [show (((y : Nat) : Int) - ((x : Nat) : Int)).toNat = y - x from by omega] at q5; exact q5, q3, q4⟩))
  · exact E_callP 91 (fun β => by as_aux_lemma => kernel_rfl) (fun β => .agg (arrF .u8 32 (alF tg ch ((y : Nat) : Int) (alF tg ch ((x : Nat) : Int) vv (y - x)) (z - y)))) 57 rfl (fun β => by as_aux_lemma => kernel_rfl) 2 (fun β r => ⟨rfl, .inr (.inr rfl), ⟨rfl, .inr (.inr rfl), ⟨rfl, .inr (.inr rfl), ⟨rfl, .inr (.inr rfl), ⟨rfl, .inr (.inr rfl), ⟨rfl, .inr (.inr rfl), ⟨rfl, .inr (.inr rfl), ⟨rfl, .inr (.inr rfl), ⟨rfl, .inr (.inr rfl), ⟨rfl, .inr (.inr rfl), ⟨rfl, .inr (.inr rfl), ⟨rfl, .inr (.inr rfl), ⟨rfl, .inl rfl, ⟨rfl, .inr (.inr rfl), trivial⟩⟩⟩⟩⟩⟩⟩⟩⟩⟩⟩⟩⟩⟩) 19 (fun β => #[.pointer (some ⟨gm, 0, none⟩), .agg (arrF .u8 32 tg), .int .i64 ch, .int .i64 ((y : Nat) : Int), .int .i64 ((z : Nat) : Int), .agg (arrF .u8 32 (alF tg ch ((x : Nat) : Int) vv (y - x)))]) (fun β w => by as_aux_lemma => kernel_rfl) 2 [] 1 1 _ _ rfl rfl (by as_aux_lemma => kernel_rfl) (by as_aux_lemma => kernel_rfl) rfl (fun β w hk hl hq hm => (along_any gm (β 11).n tg htg ch ((y : Nat) : Int) ((z : Nat) : Int) (by omega) (by omega) (alF tg ch ((x : Nat) : Int) vv (y - x)) (alF_lt _ _ _ hvv _) _ (hW.kept hk List.not_mem_nil List.not_mem_nil) hm).mono (fun _ _ ⟨r, q1, q2, q3, q4⟩ => ⟨r, by (rw [q1, show (((z : Nat) : Int) - ((y : Nat) : Int)).toNat = z - y from by omega]) <;> rfl, by have q5 := q2; rw [show (((z : Nat) : Int) - ((y : Nat) : Int)).toNat = z - y from by omega] at q5; exact q5, q3, q4⟩))
  · exact E_new 91 (fun β => by as_aux_lemma => kernel_rfl) (fun β => .pointer (some ⟨(β 13).g, 0, none⟩)) 16 rfl (fun β => by as_aux_lemma => kernel_rfl) 2 (fun β r => ⟨rfl, .inr (.inr rfl), ⟨rfl, .inr (.inr rfl), ⟨rfl, .inr (.inr rfl), ⟨rfl, .inr (.inr rfl), ⟨rfl, .inr (.inr rfl), ⟨rfl, .inr (.inr rfl), ⟨rfl, .inr (.inr rfl), ⟨rfl, .inr (.inr rfl), ⟨rfl, .inr (.inr rfl), ⟨rfl, .inr (.inr rfl), ⟨rfl, .inr (.inr rfl), ⟨rfl, .inr (.inr rfl), ⟨rfl, .inr (.inr rfl), ⟨rfl, .inl rfl, trivial⟩⟩⟩⟩⟩⟩⟩⟩⟩⟩⟩⟩⟩⟩) 2 [] 0 _ rfl (by as_aux_lemma => kernel_rfl) (by as_aux_lemma => kernel_rfl) rfl (fun β w hk hl hq => ⟨⟨w.heap.size, 0, [], 0⟩, _, (show (execOp _ _).run _ w = .ok (.value (.pointer (some ⟨w.heap.size, 0, none⟩))) (w.alloc (.cells #[.int .u8 0, .int .u8 0, .int .u8 0, .int .u8 0, .int .u8 0, .int .u8 0, .int .u8 0, .int .u8 0, .int .u8 0, .int .u8 0, .int .u8 0, .int .u8 0, .int .u8 0, .int .u8 0, .int .u8 0, .int .u8 0, .int .u8 0, .int .u8 0, .int .u8 0, .int .u8 0, .int .u8 0, .int .u8 0, .int .u8 0, .int .u8 0, .int .u8 0, .int .u8 0, .int .u8 0, .int .u8 0, .int .u8 0, .int .u8 0, .int .u8 0, .int .u8 0] 23 (0, 0))) from by as_aux_lemma => kernel_rfl), trivial, Nat.le_refl _, heap_alloc_new _ _, Kept.alloc _ _⟩)
  · exact E_store 91 (fun β => by as_aux_lemma => kernel_rfl) rfl 2 [] 0 0 _ _ rfl rfl (by as_aux_lemma => kernel_rfl) rfl (fun _ => trivial) (fun β w hk hl hq hm => let ⟨w', h1, h2, h3⟩ := P_row (cs := (arrF .u8 32 (alF tg ch ((y : Nat) : Int) (alF tg ch ((x : Nat) : Int) vv (y - x)) (z - y)))) (old := #[.int .u8 0, .int .u8 0, .int .u8 0, .int .u8 0, .int .u8 0, .int .u8 0, .int .u8 0, .int .u8 0, .int .u8 0, .int .u8 0, .int .u8 0, .int .u8 0, .int .u8 0, .int .u8 0, .int .u8 0, .int .u8 0, .int .u8 0, .int .u8 0, .int .u8 0, .int .u8 0, .int .u8 0, .int .u8 0, .int .u8 0, .int .u8 0, .int .u8 0, .int .u8 0, .int .u8 0, .int .u8 0, .int .u8 0, .int .u8 0, .int .u8 0, .int .u8 0]) rfl rfl (ty := 23) (x := (.tmp 16)) (y := (.tmp 57)) rfl (by as_aux_lemma => kernel_rfl) (by as_aux_lemma => kernel_rfl) (by rw [arrF_size]; kernel_rfl) (by rw [arrF_size]; kernel_rfl) (arrF_one _ _ _) hm; ⟨w', h1, h2, h3⟩)
  clear F H; intro β a v Q F H
  replace H : Hp [] w [⟨true, (β 13).g, .cells (arrF .u8 32 (alF tg ch ((y : Nat) : Int) (alF tg ch ((x : Nat) : Int) vv (y - x)) (z - y))) 23 (0, 0)⟩, ⟨true, gm, .cells (mtr (β 12).n) 91 (0, 0)⟩, ⟨true, aq11, .cells (arrF .u8 32 (alF tg ch ((x : Nat) : Int) vv (z - x))) 23 (0, 0)⟩, ⟨true, aq3, .cells (arrF .u8 32 vv) 23 (0, 0)⟩, ⟨true, aq2, .cells (arrF .u8 32 tg) 23 (0, 0)⟩] v := H
  replace F : Fm 91 [] [(16, .pointer (some ⟨(β 13).g, 0, none⟩)), (57, .agg (arrF .u8 32 (alF tg ch ((y : Nat) : Int) (alF tg ch ((x : Nat) : Int) vv (y - x)) (z - y)))), (56, .agg (arrF .u8 32 (alF tg ch ((x : Nat) : Int) vv (y - x)))), (55, .agg (arrF .u8 32 vv)), (54, .int .i64 ((y : Nat) : Int)), (53, .int .i64 ((x : Nat) : Int)), (52, .int .i64 ch), (51, .agg (arrF .u8 32 tg)), (50, .pointer (some ⟨gm, 0, none⟩)), (49, .int .i64 ((z : Nat) : Int)), (48, .int .i64 ((y : Nat) : Int)), (47, .int .i64 ch), (46, .agg (arrF .u8 32 tg)), (45, .pointer (some ⟨gm, 0, none⟩)), (15, .pointer (some ⟨aq11, 0, none⟩)), (44, .agg (arrF .u8 32 (alF tg ch ((x : Nat) : Int) vv (z - x)))), (43, .agg (arrF .u8 32 vv)), (42, .int .i64 ((z : Nat) : Int)), (41, .int .i64 ((x : Nat) : Int)), (40, .int .i64 ch), (39, .agg (arrF .u8 32 tg)), (38, .pointer (some ⟨gm, 0, none⟩)), (14, .pointer (some ⟨gm, 0, none⟩)), (37, .pointer (some ⟨gm, 0, none⟩)), (35, .bool false), (34, .bool false), (33, .int .i64 ((z : Nat) : Int)), (32, .bool false), (31, .bool false), (30, .bool false), (29, .int .i64 ((y : Nat) : Int)), (28, .int .i64 ((z : Nat) : Int)), (27, .bool false), (26, .bool false), (25, .bool false), (24, .int .i64 ((x : Nat) : Int)), (23, .int .i64 ((y : Nat) : Int)), (22, .bool false), (21, .bool false), (20, .int .i64 ((x : Nat) : Int)), (13, .bool true), (19, .bool true), (12, .bool false), (11, .pointer (some ⟨aq3, 0, none⟩)), (6, .pointer (some ⟨aq2, 0, none⟩)), (0, .agg (arrF .u8 32 tg)), (1, .int .i64 ch), (2, .int .i64 ((x : Nat) : Int)), (3, .int .i64 ((y : Nat) : Int)), (4, .int .i64 ((z : Nat) : Int)), (5, .agg (arrF .u8 32 vv))] a := F.weak _ (⟨rfl, ⟨rfl, ⟨rfl, ⟨rfl, ⟨rfl, ⟨rfl, ⟨rfl, ⟨rfl, ⟨rfl, ⟨rfl, ⟨rfl, ⟨rfl, ⟨rfl, ⟨rfl, ⟨rfl, ⟨rfl, ⟨rfl, ⟨rfl, ⟨rfl, ⟨rfl, ⟨rfl, ⟨rfl, ⟨rfl, ⟨rfl, ⟨rfl, ⟨rfl, ⟨rfl, ⟨rfl, ⟨rfl, ⟨rfl, ⟨rfl, ⟨rfl, ⟨rfl, ⟨rfl, ⟨rfl, ⟨rfl, ⟨rfl, ⟨rfl, ⟨rfl, ⟨rfl, ⟨rfl, ⟨rfl, ⟨rfl, ⟨rfl, ⟨rfl, ⟨rfl, ⟨rfl, ⟨rfl, ⟨rfl, ⟨rfl, ⟨rfl, trivial⟩⟩⟩⟩⟩⟩⟩⟩⟩⟩⟩⟩⟩⟩⟩⟩⟩⟩⟩⟩⟩⟩⟩⟩⟩⟩⟩⟩⟩⟩⟩⟩⟩⟩⟩⟩⟩⟩⟩⟩⟩⟩⟩⟩⟩⟩⟩⟩⟩⟩⟩)
  have Qh15_2 : (β 11).n = rq10.n + (y - x) := Q.2.2.2.1.1
  have Qh15_3 : (β 12).n = (β 11).n + (z - y) := Q.2.2.2.1.2.1
  clear Q
  generalize β 13 = rq13 at F H Qh15_2 Qh15_3
  generalize β 11 = rq14 at F H Qh15_2 Qh15_3
  generalize β 12 = rq15 at F H Qh15_2 Qh15_3
  skip
  refine ?_
  refine hK12 _ _ ?_
  clear hK12
  try clear K12
  refine C_seqK (fun K16 hK16 => ?_)
  refine C_region ?_
  refine T_val F H (by as_aux_lemma => kernel_rfl) (.pointer (some ⟨gm, 0, none⟩)) (fun _ _ => by as_aux_lemma => kernel_rfl) ?_
  clear F; intro a F
  refine T_val F H (by as_aux_lemma => kernel_rfl) (.agg (arrF .u8 32 tg)) (R_load (own := true) (g := aq2) (all := (arrF .u8 32 tg)) (t := 23) (fr := (0, 0)) 4 (by as_aux_lemma => kernel_rfl) 23 (.tmp 6) rfl 0 (by as_aux_lemma => kernel_rfl) (arrF .u8 32 tg) (part_all _) _ Tryd.underlying23 rfl (by rw [arrF_size]; kernel_rfl)) ?_
  clear F; intro a F
  refine T_val F H (by as_aux_lemma => kernel_rfl) (.int .i64 ch) (fun _ _ => by as_aux_lemma => kernel_rfl) ?_
  clear F; intro a F
  refine T_val F H (by as_aux_lemma => kernel_rfl) (.int .i64 ((z : Nat) : Int)) (fun _ _ => by as_aux_lemma => kernel_rfl) ?_
  clear F; intro a F
  refine T_val F H (by as_aux_lemma => kernel_rfl) (.int .i64 ((x : Nat) : Int)) (fun _ _ => by as_aux_lemma => kernel_rfl) ?_
  clear F; intro a F
  refine T_val F H (by as_aux_lemma => kernel_rfl) (.agg (arrF .u8 32 vv)) (R_load (own := true) (g := aq3) (all := (arrF .u8 32 vv)) (t := 23) (fr := (0, 0)) 3 (by as_aux_lemma => kernel_rfl) 23 (.tmp 11) rfl 0 (by as_aux_lemma => kernel_rfl) (arrF .u8 32 vv) (part_all _) _ Tryd.underlying23 rfl (by rw [arrF_size]; kernel_rfl)) ?_
  clear F; intro a F
  refine T_callX (α := SlR) F H (by as_aux_lemma => kernel_rfl) 19 #[.pointer (some ⟨gm, 0, none⟩), .agg (arrF .u8 32 tg), .int .i64 ch, .int .i64 ((z : Nat) : Int), .int .i64 ((x : Nat) : Int), .agg (arrF .u8 32 vv)] (fun rX => .agg (arrF .u8 32 vv)) (fun rX => [⟨true, rq13.g, .cells (arrF .u8 32 (alF tg ch ((y : Nat) : Int) (alF tg ch ((x : Nat) : Int) vv (y - x)) (z - y))) 23 (0, 0)⟩, ⟨true, gm, .cells (mtr rX.n) 91 (0, 0)⟩, ⟨true, aq11, .cells (arrF .u8 32 (alF tg ch ((x : Nat) : Int) vv (z - x))) 23 (0, 0)⟩, ⟨true, aq3, .cells (arrF .u8 32 vv) 23 (0, 0)⟩, ⟨true, aq2, .cells (arrF .u8 32 tg) 23 (0, 0)⟩]) (fun rX => rX.n = rq15.n + (x - z)) (fun w => by as_aux_lemma => kernel_rfl) (fun w H => callsX_putV H (k := 1) rfl ((along_any gm rq15.n tg htg ch ((z : Nat) : Int) ((x : Nat) : Int) (by omega) (by omega) vv hvv _ (hW.kept H.kept List.not_mem_nil List.not_mem_nil) (H.at_ (k := 1) rfl)).mono (fun _ _ ⟨r, q1, q2, q3, q4⟩ => ⟨r, by (rw [q1, show (((x : Nat) : Int) - ((z : Nat) : Int)).toNat = x - z from by omega, show x - z = 0 from by omega]) <;> rfl, by have q5 := q2; rw [show (((x : Nat) : Int) - ((z : Nat) : Int)).toNat = x - z from by omega] at q5; exact q5, q3, q4⟩))) ?_
  clear F H; intro rq17 a v Qrq17 F H
  refine T_new F H (by as_aux_lemma => kernel_rfl) (fun ad => .pointer (some ⟨ad, 0, none⟩)) (.cells #[.int .u8 0, .int .u8 0, .int .u8 0, .int .u8 0, .int .u8 0, .int .u8 0, .int .u8 0, .int .u8 0, .int .u8 0, .int .u8 0, .int .u8 0, .int .u8 0, .int .u8 0, .int .u8 0, .int .u8 0, .int .u8 0, .int .u8 0, .int .u8 0, .int .u8 0, .int .u8 0, .int .u8 0, .int .u8 0, .int .u8 0, .int .u8 0, .int .u8 0, .int .u8 0, .int .u8 0, .int .u8 0, .int .u8 0, .int .u8 0, .int .u8 0, .int .u8 0] 23 (0, 0)) (fun w => by as_aux_lemma => kernel_rfl) ?_
  clear F H; intro aq18 a v F H
  refine T_set F H (by as_aux_lemma => kernel_rfl) rfl 0 rfl (arrF .u8 32 vv) (S_row 0 rfl 23 (.tmp 17) (.tmp 64) rfl (by as_aux_lemma => kernel_rfl) (arrF .u8 32 vv) (by as_aux_lemma => kernel_rfl) (by rw [arrF_size]; kernel_rfl) (by rw [arrF_size]; kernel_rfl) (arrF_one _ _ _)) [⟨true, aq18, .cells (arrF .u8 32 vv) 23 (0, 0)⟩, ⟨true, rq13.g, .cells (arrF .u8 32 (alF tg ch ((y : Nat) : Int) (alF tg ch ((x : Nat) : Int) vv (y - x)) (z - y))) 23 (0, 0)⟩, ⟨true, gm, .cells (mtr rq17.n) 91 (0, 0)⟩, ⟨true, aq11, .cells (arrF .u8 32 (alF tg ch ((x : Nat) : Int) vv (z - x))) 23 (0, 0)⟩, ⟨true, aq3, .cells (arrF .u8 32 vv) 23 (0, 0)⟩, ⟨true, aq2, .cells (arrF .u8 32 tg) 23 (0, 0)⟩] rfl ?_
  clear F H; intro a v F H
  refine wpList_nil ?_
  refine hK16 _ _ ?_
  clear hK16
  try clear K16
  refine C_seqK (fun K19 hK19 => ?_)
  refine C_region ?_
  refine T_val F H (by as_aux_lemma => kernel_rfl) (.pointer (some ⟨gm, 0, none⟩)) (fun _ _ => by as_aux_lemma => kernel_rfl) ?_
  clear F; intro a F
  refine T_call F H (by as_aux_lemma => kernel_rfl) 29 #[.pointer (some ⟨gm, 0, none⟩)] (.int .i64 (((2 * (z - x)) : Nat) : Int)) (fun w => by as_aux_lemma => kernel_rfl) ((count_any gm rq17.n _ (H.at_ (k := 2) rfl)).mono (fun _ _ ⟨q1, q2⟩ => ⟨by rw [q1, show (rq17.n : Nat) = 2 * (z - x) from by omega, wr_i64 (by omega)], q2⟩)) ?_
  clear F H; intro a v F H
  refine T_val F H (by as_aux_lemma => kernel_rfl) (.int .i64 (((2 * (z - x)) : Nat) : Int)) (fun _ _ => by as_aux_lemma => kernel_rfl) ?_
  clear F; intro a F
  refine wpList_nil ?_
  refine hK19 _ _ ?_
  clear hK19
  try clear K19
  refine C_seqK (fun K20 hK20 => ?_)
  refine C_region ?_
  refine T_val F H (by as_aux_lemma => kernel_rfl) (.bool true) (fun _ _ => by as_aux_lemma => kernel_rfl) ?_
  clear F; intro a F
  refine T_val F H (by as_aux_lemma => kernel_rfl) (.bool true) (fun _ _ => by as_aux_lemma => kernel_rfl) ?_
  clear F; intro a F
  refine T_val F H (by as_aux_lemma => kernel_rfl) (.agg (arrF .u8 32 (alF tg ch ((x : Nat) : Int) vv (z - x)))) (R_load (own := true) (g := aq11) (all := (arrF .u8 32 (alF tg ch ((x : Nat) : Int) vv (z - x)))) (t := 23) (fr := (0, 0)) 3 (by as_aux_lemma => kernel_rfl) 23 (.tmp 15) rfl 0 (by as_aux_lemma => kernel_rfl) (arrF .u8 32 (alF tg ch ((x : Nat) : Int) vv (z - x))) (part_all _) _ Tryd.underlying23 rfl (by rw [arrF_size]; kernel_rfl)) ?_
  clear F; intro a F
  refine T_val F H (by as_aux_lemma => kernel_rfl) (.agg (arrF .u8 32 (alF tg ch ((y : Nat) : Int) (alF tg ch ((x : Nat) : Int) vv (y - x)) (z - y)))) (R_load (own := true) (g := rq13.g) (all := (arrF .u8 32 (alF tg ch ((y : Nat) : Int) (alF tg ch ((x : Nat) : Int) vv (y - x)) (z - y)))) (t := 23) (fr := (0, 0)) 1 (by as_aux_lemma => kernel_rfl) 23 (.tmp 16) rfl 0 (by as_aux_lemma => kernel_rfl) (arrF .u8 32 (alF tg ch ((y : Nat) : Int) (alF tg ch ((x : Nat) : Int) vv (y - x)) (z - y))) (part_all _) _ Tryd.underlying23 rfl (by rw [arrF_size]; kernel_rfl)) ?_
  clear F; intro a F
  refine T_val F H (by as_aux_lemma => kernel_rfl) (.bool true) (fun w _ => R_eqK (x := (.tmp 69)) (y := (.tmp 70)) rfl (alF tg ch ((x : Nat) : Int) vv (z - x)) (alF tg ch ((y : Nat) : Int) (alF tg ch ((x : Nat) : Int) vv (y - x)) (z - y)) (by as_aux_lemma => kernel_rfl) (by as_aux_lemma => kernel_rfl) true ⟨fun _ _ _ => congrFun hsum _, fun _ => rfl⟩ w) ?_
  clear F; intro a F
  refine T_val F H (by as_aux_lemma => kernel_rfl) (.bool true) (fun _ _ => by as_aux_lemma => kernel_rfl) ?_
  clear F; intro a F
  refine T_val F H (by as_aux_lemma => kernel_rfl) (.bool true) (fun _ _ => by as_aux_lemma => kernel_rfl) ?_
  clear F; intro a F
  refine T_val F H (by as_aux_lemma => kernel_rfl) (.agg (arrF .u8 32 vv)) (R_load (own := true) (g := aq18) (all := (arrF .u8 32 vv)) (t := 23) (fr := (0, 0)) 0 (by as_aux_lemma => kernel_rfl) 23 (.tmp 17) rfl 0 (by as_aux_lemma => kernel_rfl) (arrF .u8 32 vv) (part_all _) _ Tryd.underlying23 rfl (by rw [arrF_size]; kernel_rfl)) ?_
  clear F; intro a F
  refine T_val F H (by as_aux_lemma => kernel_rfl) (.agg (arrF .u8 32 vv)) (R_load (own := true) (g := aq3) (all := (arrF .u8 32 vv)) (t := 23) (fr := (0, 0)) 4 (by as_aux_lemma => kernel_rfl) 23 (.tmp 11) rfl 0 (by as_aux_lemma => kernel_rfl) (arrF .u8 32 vv) (part_all _) _ Tryd.underlying23 rfl (by rw [arrF_size]; kernel_rfl)) ?_
  clear F; intro a F
  refine T_val F H (by as_aux_lemma => kernel_rfl) (.bool true) (fun w _ => R_eqK (x := (.tmp 74)) (y := (.tmp 75)) rfl vv vv (by as_aux_lemma => kernel_rfl) (by as_aux_lemma => kernel_rfl) true ⟨fun _ _ _ => rfl, fun _ => rfl⟩ w) ?_
  clear F; intro a F
  refine T_val F H (by as_aux_lemma => kernel_rfl) (.bool true) (fun _ _ => by as_aux_lemma => kernel_rfl) ?_
  clear F; intro a F
  refine T_skip F (by as_aux_lemma => kernel_rfl) (by as_aux_lemma => kernel_rfl) ?_
  clear F; intro a F
  refine T_skip F (by as_aux_lemma => kernel_rfl) (by as_aux_lemma => kernel_rfl) ?_
  clear F; intro a F
  refine T_skip F (by as_aux_lemma => kernel_rfl) (by as_aux_lemma => kernel_rfl) ?_
  clear F; intro a F
  refine T_val F H (by as_aux_lemma => kernel_rfl) (.bool true) (fun _ _ => by as_aux_lemma => kernel_rfl) ?_
  clear F; intro a F
  refine T_val F H (by as_aux_lemma => kernel_rfl) (.bool true) (fun _ _ => by as_aux_lemma => kernel_rfl) ?_
  clear F; intro a F
  refine T_val F H (by as_aux_lemma => kernel_rfl) (.bool true) (fun _ _ => by as_aux_lemma => kernel_rfl) ?_
  clear F; intro a F
  refine T_val F H (by as_aux_lemma => kernel_rfl) (.int .i64 (((2 * (z - x)) : Nat) : Int)) (fun _ _ => by as_aux_lemma => kernel_rfl) ?_
  clear F; intro a F
  refine T_val F H (by as_aux_lemma => kernel_rfl) (.int .i64 ((z : Nat) : Int)) (fun _ _ => by as_aux_lemma => kernel_rfl) ?_
  clear F; intro a F
  refine T_val F H (by as_aux_lemma => kernel_rfl) (.int .i64 ((x : Nat) : Int)) (fun _ _ => by as_aux_lemma => kernel_rfl) ?_
  clear F; intro a F
  refine T_val F H (by as_aux_lemma => kernel_rfl) (.int .i64 (((z - x) : Nat) : Int)) (fun w _ => R_bin (x := (.tmp 85)) (y := (.tmp 86)) rfl (k := .i64) (a := ((z : Nat) : Int)) (b := ((x : Nat) : Int)) (by as_aux_lemma => kernel_rfl) (by as_aux_lemma => kernel_rfl) (i_subn64 (a := z) (b := x) (by omega) (by omega)) w) ?_
  clear F; intro a F
  refine T_val F H (by as_aux_lemma => kernel_rfl) (.int .i64 (((2 * (z - x)) : Nat) : Int)) (fun w _ => R_bin (x := (.const (.int .i64 2))) (y := (.tmp 87)) rfl (k := .i64) (a := ((2 : Nat) : Int)) (b := (((z - x) : Nat) : Int)) (by as_aux_lemma => kernel_rfl) (by as_aux_lemma => kernel_rfl) (i_muln64 (a := 2) (b := (z - x)) (by omega)) w) ?_
  clear F; intro a F
  refine T_val F H (by as_aux_lemma => kernel_rfl) (.bool true) (fun w _ => R_bin (x := (.tmp 84)) (y := (.tmp 88)) rfl (k := .i64) (a := (((2 * (z - x)) : Nat) : Int)) (b := (((2 * (z - x)) : Nat) : Int)) (by as_aux_lemma => kernel_rfl) (by as_aux_lemma => kernel_rfl) (i_eq rfl) w) ?_
  clear F; intro a F
  refine T_val F H (by as_aux_lemma => kernel_rfl) (.bool true) (fun _ _ => by as_aux_lemma => kernel_rfl) ?_
  clear F; intro a F
  refine T_val F H (by as_aux_lemma => kernel_rfl) (.bool true) (fun _ _ => by as_aux_lemma => kernel_rfl) ?_
  clear F; intro a F
  refine wpList_nil ?_
  refine hK20 _ _ ?_
  clear hK20
  try clear K20
  refine wp_ret ?_
  exact C_ret F H (rs := [.tmp 12]) rfl (vs := [.bool true]) (.tmp rfl .nil) (.bool true) rfl ⟨rfl, H.kept⟩

theorem otsParts_any (tg : Nat → Nat) (htg : ∀ i, i < 32 → tg i < 256) (ch x y z : Int) (vv : Nat → Nat) (hvv : ∀ i, i < 32 → vv i < 256) (w : World) (hW : Laid w) : Calls Tryd.prog 7 #[.agg (arrF .u8 32 tg), .int .i64 ch, .int .i64 x, .int .i64 y, .int .i64 z, .agg (arrF .u8 32 vv)] w fun e w' => e = .returned (.bool true) ∧ Kept [] w w' := by
  by_cases h1 : x < 0
  · exact parts1 tg htg ch x y z vv hvv h1 w hW
  by_cases h2 : y < x
  · exact parts2 tg htg ch x y z vv hvv (by omega) h2 w hW
  by_cases h3 : z < y
  · exact parts3 tg htg ch x y z vv hvv (by omega) (by omega) h3 w hW
  by_cases h4 : 40 < z
  · exact parts4 tg htg ch x y z vv hvv (by omega) (by omega) (by omega) h4 w hW
  obtain ⟨x, rfl⟩ := Int.eq_ofNat_of_zero_le (a := x) (by omega)
  obtain ⟨y, rfl⟩ := Int.eq_ofNat_of_zero_le (a := y) (by omega)
  obtain ⟨z, rfl⟩ := Int.eq_ofNat_of_zero_le (a := z) (by omega)
  exact parts5 tg htg ch x y z vv hvv (by omega) (by omega) (by omega) w hW
end Go.Proofs.YtdejhenkdbjakaaDoor
