/- XB -/
import Derived.Test.YtdejhenkdbjakaaDoorQM16
set_option linter.unusedVariables false
set_option linter.unusedSimpArgs false
set_option maxRecDepth 100000
set_option maxHeartbeats 4000000
namespace Go.Proofs.YtdejhenkdbjakaaDoor
open Go Go.RowKit
def xorP (la lb : List Nat) (n k : Nat) : List Nat := (List.range n).map fun i => if i < k then la.getD i 0 ^^^ lb.getD i 0 else 0
theorem xorP_len (la lb : List Nat) (n k : Nat) : (xorP la lb n k).length = n := by simp [xorP]
theorem xorP_get (la lb : List Nat) (n k : Nat) {i : Nat} (h : i < n) : (xorP la lb n k)[i]? = some (if i < k then la.getD i 0 ^^^ lb.getD i 0 else 0) := by simp [xorP, h]
theorem xorP_zero (la lb : List Nat) (n : Nat) : List.replicate n 0 = xorP la lb n 0 := by
  refine List.ext_getElem? fun i => ?_
  rcases Nat.lt_or_ge i n with h | h
  · rw [xorP_get _ _ _ _ h, if_neg (Nat.not_lt_zero _), List.getElem?_replicate, if_pos h]
  · rw [List.getElem?_eq_none (by simp; omega), List.getElem?_eq_none (by rw [xorP_len]; omega)]
theorem xorP_set (la lb : List Nat) (n : Nat) {k : Nat} (h : k < n) : (xorP la lb n k).set k (la.getD k 0 ^^^ lb.getD k 0) = xorP la lb n (k + 1) := by
  refine List.ext_getElem? fun i => ?_
  rw [List.getElem?_set]
  by_cases e : k = i
  · subst e
    rw [if_pos rfl, if_pos (by rw [xorP_len]; exact h), xorP_get _ _ _ _ h, if_pos (by omega)]
  · rw [if_neg e]
    rcases Nat.lt_or_ge i n with hi | hi
    · rw [xorP_get _ _ _ _ hi, xorP_get _ _ _ _ hi]
      congr 1
      by_cases h1 : i < k
      · rw [if_pos h1, if_pos (by omega)]
      · rw [if_neg h1, if_neg (by omega)]
    · rw [List.getElem?_eq_none (by rw [xorP_len]; exact hi), List.getElem?_eq_none (by rw [xorP_len]; exact hi)]
theorem xor8_lt {a b : Nat} (ha : a < 256) (hb : b < 256) : a ^^^ b < 256 := Nat.xor_lt_two_pow (n := 8) ha hb
theorem R_min {P : Program} {o : Oper} {V : List (Nat × Value)} {x y : Operand} {ts : Array TypeId} (ho : o.op = .call { callee := .builtin .min, args := #[x, y], argTypes := ts }) {a b m : Nat} (hx : evV V x = .int .i64 (a : Nat)) (hy : evV V y = .int .i64 (b : Nat)) (hm : m = min a b) (w : World) : (execOp (evV V) o).run P w = .ok (.value (.int .i64 (m : Nat))) w := by
  subst hm
  unfold execOp
  simp only [ho, resolve, invoke, builtin, Sem.run_bind, Sem.run_pure, Result.andThen_ok, List.map_toArray, List.map_cons, List.map_nil, hx, hy]
  simp [Builtin.min_, Builtin.min2, Sem.run_bind, Sem.run_pure, go_sem]
  rcases Nat.le_total a b with h | h
  · rw [Nat.min_eq_left h]; simp; intro h2; omega
  · rw [Nat.min_eq_right h]; simp; intro h2; omega

theorem xor_any (la : List Nat) (hla : ∀ x ∈ la, x < 256) (lb : List Nat) (hlb : ∀ x ∈ lb, x < 256) (ga oa na ca : Nat) (aa : Array Value) (tya : TypeId) (fra : Nat × Nat) (gb ob nb_ cb : Nat) (ab : Array Value) (tyb : TypeId) (frb : Nat × Nat) (haa : ∀ j, j < na → aa[oa + j]? = some (.int .u8 (la.getD j 0 : Nat))) (hab : ∀ j, j < nb_ → ab[ob + j]? = some (.int .u8 (lb.getD j 0 : Nat))) (hsm : na < 1000000) (w : World) (hga : w.heap[ga]? = some (.cells aa tya fra)) (hgb : w.heap[gb]? = some (.cells ab tyb frb)) (hne : ga ≠ gb) : Calls Tryd.prog 88 #[.slice (some ⟨ga, oa, none⟩) na ca, .slice (some ⟨gb, ob, none⟩) nb_ cb] w (MadeS [] 5 1 (min na nb_) (oct (xorP la lb (min na nb_) (min na nb_))) w) := by
  have hma := fun k => getD_lt hla k
  have hmb := fun k => getD_lt hlb k
  obtain ⟨mm, hmm⟩ : ∃ mm, mm = min na nb_ := ⟨_, rfl⟩
  rw [← hmm]
  refine C_enter Tryd.func88 rfl 32 Tryd.ntmps88 (Nat.le_of_ble_eq_true rfl) (fun a F => ?_)
  have H := Hp.start22 hga hgb hne
  replace F : Fm 32 [] [(0, sc ga oa na ca), (1, sc gb ob nb_ cb)] a := F.weak _ (subL_of kr);refine C_seqK fun K1 hK1 => C_region ?_;refine T_k F H (.slice none 0 0) ?_;clear F; intro a F;refine wpList_nil (hK1 _ _ ?_);clear hK1;refine C_seqK fun K2 hK2 => C_region ?_;refine T_k F H (sc ga oa na ca) ?_;clear F; intro a F;refine T_k F H (ni na) ?_;clear F; intro a F;refine T_k F H (sc gb ob nb_ cb) ?_;clear F; intro a F;refine T_k F H (ni nb_) ?_;clear F; intro a F;refine T_val F H kr (ni mm) (fun q_ _ => R_min rfl (a := na) (b := nb_) kr kr hmm q_) ?_;clear F; intro a F;refine T_new F H kr (fun ad => sc ad 0 (mm) (mm)) (ce (sl (ints .u8 (List.replicate (mm) 0)) []) 5) (fun w => R_makeI rfl Tryd.underlying54 (m := mm) (k := .i64) (k' := .i64) kr kr .u8 (bytes := 1) kr kr (by omega) (by simp only [maxLen]; omega) w) ?_;clear F H; intro aq3 a v F H;refine T_k F H (sc aq3 0 mm mm) ?_;clear F; intro a F;refine wpList_nil (hK2 _ _ ?_);clear hK2;refine C_seqK (fun K4 hK4 => ?_);refine C_seqK fun K5 hK5 => C_region ?_;refine T_k F H (sc aq3 0 mm mm) ?_;clear F; intro a F;refine T_k F H (ni mm) ?_;clear F; intro a F;refine T_k F H (ni 0) ?_;clear F; intro a F;refine wpList_nil ?_;replace F : Fm 32 [] [(15, ni 0), (14, ni mm), (5, sc aq3 0 mm mm), (0, sc ga oa na ca), (1, sc gb ob nb_ cb)] a := F.weak _ (subL_of kr);replace H : Hp [] w [bk aq3 (sl (ints .u8 (List.replicate (mm) 0)) []) 5, ⟨false, ga, .cells aa tya fra⟩, ⟨false, gb, .cells ab tyb frb⟩] v := H.pick [0, 1, 2] kr _ rfl
  rw [xorP_zero la lb mm] at H
  refine hK5 _ _ ?_;clear hK5;refine wp_block ?_;refine C_loop (fun m a v => ∃ k, k + m = mm ∧ Fm 32 [] [(15, ni k), (14, ni mm), (5, sc aq3 0 mm mm), (0, sc ga oa na ca), (1, sc gb ob nb_ cb)] a ∧ Hp [] w [bk aq3 (sl (oct (xorP la lb mm k)) []) 5, ⟨false, ga, .cells aa tya fra⟩, ⟨false, gb, .cells ab tyb frb⟩] v) (mm) ⟨0, Nat.zero_add _, F, H⟩ ?_;clear F H;intro m a v ⟨k, hk, F, H⟩
  rcases m with _ | m
  rotate_left
  · skip
    have hmk := hma k
    have hmk2 := hmb k
    refine C_seqK fun K6 hK6 => C_region ?_;refine T_val F H kr (.bool true) (fun w _ => R_bin rfl (k := .i64) (a := (k : Nat)) (b := (mm : Nat)) kr kr (i_lt (by omega)) w) ?_;clear F; intro a F;refine wpList_nil (hK6 _ _ ?_);clear hK6;refine C_seqK (fun K7 hK7 => ?_);refine C_if F true rfl rfl ?_;refine wp_skip ?_;refine hK7 _ _ ?_;clear hK7;refine C_seqK (fun K8 hK8 => ?_);refine wp_block ?_;refine C_seqK fun K9 hK9 => C_region ?_;refine T_k F H (ni k) ?_;clear F; intro a F;refine T_k F H (ni k) ?_;clear F; intro a F;refine wpList_nil (hK9 _ _ ?_);clear hK9;refine E_region F H (fun β => [(18, sc aq3 0 mm mm), (19, ni k), (20, sc ga oa na ca), (21, ni k), (22, pt ga (oa + (k) * 1)), (23, nb (la.getD k 0)), (24, sc gb ob nb_ cb), (25, ni k), (26, pt gb (ob + (k) * 1)), (27, nb (lb.getD k 0)), (28, nb (la.getD k 0 ^^^ lb.getD k 0)), (29, pt aq3 (0 + (k) * 1))]) [18, 19, 20, 21, 22, 23, 24, 25, 26, 27, 28, 29] [⟨none, none, aq3, [], fun q_ => ce (sl (oct (xorP la lb mm k)) []) 5, gT, [⟨12, [], fun q_ => ce (sl (ints .u8 ((xorP la lb mm k).set (k) ((la.getD k 0 ^^^ lb.getD k 0)))) []) 5, gT⟩]⟩] [⟨false, ga, .cells aa tya fra⟩, ⟨false, gb, .cells ab tyb frb⟩] [0, 1, 2] 2 [] kr kr kr (fun β => rfl) ⟨fun _ _ => trivial, trivial⟩ ⟨?_, ?_, ?_, ?_, ?_, ?_, ?_, ?_, ?_, ?_, ?_, ?_, ?_, trivial⟩ ?_
    · exact E_k 32 (fun β => sc aq3 0 mm mm) 18 2
    · exact E_k 32 (fun β => ni k) 19 2
    · exact E_k 32 (fun β => sc ga oa na ca) 20 2
    · exact E_k 32 (fun β => ni k) 21 2
    · exact E_v 32 (fun β => pt ga (oa + (k) * 1)) 22 2 [] (fun β w hk hl hq => R_indexS (k := .i64) (g := ga) (off := oa) (len := na) (cap := ca) rfl Tryd.underlying54 kr (k) kr (by omega) (sz := 1) kr w)
    · exact E_v 32 (fun β => nb (la.getD k 0)) 23 2 [] (fun β w hk hl hq => R_cellH hl  0 rfl 5 (.tmp 22) rfl (oa + (k) * 1) kr (nb (la.getD k 0)) ((congrArg (fun q => (aa)[q]?) (show (oa + (k) * 1) = oa + (k) by omega)).trans (haa (k) (by omega))) _ Tryd.underlying5 rfl)
    · exact E_k 32 (fun β => sc gb ob nb_ cb) 24 2
    · exact E_k 32 (fun β => ni k) 25 2
    · exact E_v 32 (fun β => pt gb (ob + (k) * 1)) 26 2 [] (fun β w hk hl hq => R_indexS (k := .i64) (g := gb) (off := ob) (len := nb_) (cap := cb) rfl Tryd.underlying54 kr (k) kr (by omega) (sz := 1) kr w)
    · exact E_v 32 (fun β => nb (lb.getD k 0)) 27 2 [] (fun β w hk hl hq => R_cellH hl  1 rfl 5 (.tmp 26) rfl (ob + (k) * 1) kr (nb (lb.getD k 0)) ((congrArg (fun q => (ab)[q]?) (show (ob + (k) * 1) = ob + (k) by omega)).trans (hab (k) (by omega))) _ Tryd.underlying5 rfl)
    · exact E_v 32 (fun β => nb (la.getD k 0 ^^^ lb.getD k 0)) 28 2 [] (fun β w hk hl hq => R_bin rfl (k := .u8) (a := (la.getD k 0 : Nat)) (b := (lb.getD k 0 : Nat)) kr kr (i_xor8 (a := la.getD k 0) (b := lb.getD k 0) (by omega) (by omega)) w)
    · exact E_v 32 (fun β => pt aq3 (0 + (k) * 1)) 29 2 [] (fun β w hk hl hq => R_indexS (k := .i64) (g := aq3) (off := 0) (len := mm) (cap := mm) rfl Tryd.underlying54 kr (k) kr (by omega) (sz := 1) kr w)
    · exact E_store 32 kq rfl 2 [] 0 0 _ _ rfl rfl kr rfl (fun _ => trivial) (fun β w hk hl hq hm => let ⟨w', h1, h2, h3⟩ := P_cell (off := (0 + (k) * 1)) (old := (sl (oct (xorP la lb mm k)) [])) (v := nb (la.getD k 0 ^^^ lb.getD k 0)) (Z := ce (sl (oct (xorP la lb mm k)) []) 5) (R := ce (sl (ints .u8 ((xorP la lb mm k).set (k) ((la.getD k 0 ^^^ lb.getD k 0)))) []) 5) rfl (by rw [show (0 + (k) * 1) = k by omega, sl_set (by rw [ints_len]; rw [xorP_len]; omega), ints_set]) (ty := 5) rfl kr kr rfl (by rw [sl_size, ints_len]; rw [xorP_len]; omega) Tryd.underlying5 rfl kr hm; ⟨w', h1, h2, h3⟩)
    clear F H; intro β a v Q F H;replace H : Hp [] w [bk aq3 (sl (ints .u8 ((xorP la lb mm k).set (k) ((la.getD k 0 ^^^ lb.getD k 0)))) []) 5, ⟨false, ga, .cells aa tya fra⟩, ⟨false, gb, .cells ab tyb frb⟩] v := H;replace F : Fm 32 [] [(29, pt aq3 (0 + (k) * 1)), (28, nb (la.getD k 0 ^^^ lb.getD k 0)), (27, nb (lb.getD k 0)), (26, pt gb (ob + (k) * 1)), (25, ni k), (24, sc gb ob nb_ cb), (23, nb (la.getD k 0)), (22, pt ga (oa + (k) * 1)), (21, ni k), (20, sc ga oa na ca), (19, ni k), (18, sc aq3 0 mm mm), (6, ni k), (17, ni k), (16, .bool true), (15, ni k), (14, ni mm), (5, sc aq3 0 mm mm), (0, sc ga oa na ca), (1, sc gb ob nb_ cb)] a := F.weak _ (subL_of kr);clear Q;refine ?_
    rw [show (ints .u8 ((xorP la lb mm k).set (k) (((la.getD k 0) ^^^ (lb.getD k 0))))) = oct (xorP la lb mm (k + 1)) from congrArg oct (xorP_set la lb mm (by omega))] at H
    refine hK8 _ _ ?_;clear hK8;refine C_region ?_;refine T_val F H kr (ni (k + 1)) (fun w _ => R_bin rfl (k := .i64) (a := (k : Nat)) (b := (1 : Nat)) kr kr (i_addn64 (a := k) (b := 1) (by omega)) w) ?_;clear F; intro a F;refine T_k F H (ni (k + 1)) ?_;clear F; intro a F;refine wpList_nil ?_;replace F : Fm 32 [] [(15, ni (k + 1)), (14, ni mm), (5, sc aq3 0 mm mm), (0, sc ga oa na ca), (1, sc gb ob nb_ cb)] a := F.weak _ (subL_of kr);replace H : Hp [] w [bk aq3 (sl (oct (xorP la lb mm (k + 1))) []) 5, ⟨false, ga, .cells aa tya fra⟩, ⟨false, gb, .cells ab tyb frb⟩] v := H
    exact ⟨m, Nat.lt_succ_self m, k + 1, by omega, F, H⟩
  have hkt : k = mm := by omega
  try rw [hkt] at F
  try rw [hkt] at H
  clear hk;refine C_seqK fun K10 hK10 => C_region ?_;refine T_val F H kr (.bool false) (fun w _ => R_bin rfl (k := .i64) (a := (mm : Nat)) (b := (mm : Nat)) kr kr (i_nlt (by omega)) w) ?_;clear F; intro a F;refine wpList_nil (hK10 _ _ ?_);clear hK10;refine C_seqK (fun K11 hK11 => ?_);refine C_if F false rfl rfl ?_;refine wp_exit ?_;refine hK4 _ _ ?_;clear hK4;refine C_seqK fun K12 hK12 => C_region ?_;refine T_k F H (sc aq3 0 mm mm) ?_;clear F; intro a F;refine T_k F H (sc aq3 0 mm mm) ?_;clear F; intro a F;refine wpList_nil (hK12 _ _ ?_);clear hK12;refine wp_ret ?_
  exact C_ret F H (rs := [.tmp 4]) rfl (vs := [sc aq3 0 mm mm]) (.tmp rfl .nil) (sc aq3 0 mm mm) rfl (made_ret H (k := 0) rfl (own_all (by rw [ints_len, xorP_len]) (by simp only [maxLen]; omega)))

def orP (la lb : List Nat) : Nat → Nat
  | 0 => 0
  | k + 1 => orP la lb k ||| (la.getD k 0 ^^^ lb.getD k 0)
theorem orP_lt {la lb : List Nat} (ha : ∀ x ∈ la, x < 256) (hb : ∀ x ∈ lb, x < 256) : ∀ k, orP la lb k < 256
  | 0 => by unfold orP; omega
  | k + 1 => Nat.or_lt_two_pow (n := 8) (orP_lt ha hb k) (xor8_lt (getD_lt ha k) (getD_lt hb k))
theorem or_zero {a b : Nat} : a ||| b = 0 ↔ a = 0 ∧ b = 0 := by
  constructor
  · intro h
    have h1 : ∀ i, a.testBit i = false ∧ b.testBit i = false := fun i => by
      have := congrArg (fun x => x.testBit i) h
      simpa [Nat.testBit_or] using this
    exact ⟨Nat.eq_of_testBit_eq fun i => by rw [(h1 i).1, Nat.zero_testBit], Nat.eq_of_testBit_eq fun i => by rw [(h1 i).2, Nat.zero_testBit]⟩
  · rintro ⟨rfl, rfl⟩; rfl
theorem xor_zero {a b : Nat} : a ^^^ b = 0 ↔ a = b := by
  constructor
  · intro h
    refine Nat.eq_of_testBit_eq fun i => ?_
    have := congrArg (fun x => x.testBit i) h
    simp only [Nat.testBit_xor, Nat.zero_testBit] at this
    cases h1 : a.testBit i <;> cases h2 : b.testBit i <;> simp_all
  · rintro rfl; exact Nat.xor_self a
theorem orP_zero (la lb : List Nat) : ∀ k, orP la lb k = 0 ↔ ∀ i, i < k → la.getD i 0 = lb.getD i 0
  | 0 => by simp [orP]
  | k + 1 => by
    rw [orP, or_zero, orP_zero la lb k, xor_zero]
    constructor
    · rintro ⟨h1, h2⟩ i hi
      rcases Nat.lt_or_ge i k with h | h
      · exact h1 i h
      · rw [show i = k by omega]; exact h2
    · exact fun h => ⟨fun i hi => h i (by omega), h k (by omega)⟩
theorem xorP_at (la lb : List Nat) {n k : Nat} (h : k < n) : (xorP la lb n n)[k]? = some (la.getD k 0 ^^^ lb.getD k 0) := by rw [xorP_get _ _ _ _ h, if_pos h]
theorem i_eqb {k : IntKind} {a : Nat} {b : Bool} (h : b = true ↔ a = 0) : intRes .eql k ((a : Nat) : Int) ((0 : Nat) : Int) = some (.bool b) := by
  have e : decide ((a : Int) = 0) = b := by
    cases b
    · have : a ≠ 0 := fun e => Bool.noConfusion (h.2 e)
      simp; omega
    · have := h.1 rfl
      simp [this]
  unfold intRes
  exact congrArg (fun q => some (Value.bool q)) e

theorem i_eqn' {k : IntKind} {a b : Nat} (h : a = b) : intRes .neq k ((a : Nat) : Int) ((b : Nat) : Int) = some (.bool false) := by subst h; simp [intRes]
theorem i_or8 {a b : Nat} (ha : a < 256) (hb : b < 256) : intRes .or .u8 a b = some (.int .u8 (a ||| b : Nat)) := by
  have h : (BitVec.ofInt 8 (a : Int) ||| BitVec.ofInt 8 (b : Int)).toNat = a ||| b := by rw [BitVec.toNat_or, bv8 a ha, bv8 b hb]
  show some (Value.int .u8 (IntKind.u8.wrap ((BitVec.ofInt 8 (a : Int) ||| BitVec.ofInt 8 (b : Int)).toNat : Int))) = _
  rw [h, wr8 (Nat.or_lt_two_pow (n := 8) ha hb)]

theorem same_any (la : List Nat) (hla : ∀ x ∈ la, x < 256) (lb : List Nat) (hlb : ∀ x ∈ lb, x < 256) (ga oa na ca : Nat) (aa : Array Value) (tya : TypeId) (fra : Nat × Nat) (gb ob nb_ cb : Nat) (ab : Array Value) (tyb : TypeId) (frb : Nat × Nat) (haa : ∀ j, j < na → aa[oa + j]? = some (.int .u8 (la.getD j 0 : Nat))) (hab : ∀ j, j < nb_ → ab[ob + j]? = some (.int .u8 (lb.getD j 0 : Nat))) (hnn : na = nb_) (hsm : na < 1000000) (bb : Bool) (hsame : bb = true ↔ ∀ i, i < na → la.getD i 0 = lb.getD i 0) (w : World) (hga : w.heap[ga]? = some (.cells aa tya fra)) (hgb : w.heap[gb]? = some (.cells ab tyb frb)) (hne : ga ≠ gb) : Calls Tryd.prog 61 #[.slice (some ⟨ga, oa, none⟩) na ca, .slice (some ⟨gb, ob, none⟩) nb_ cb] w fun e w' => e = .returned (.bool bb) ∧ Kept [] w w' := by
  have hms := fun k => orP_lt hla hlb k
  have hmx := fun k => xor8_lt (getD_lt hla k) (getD_lt hlb k)
  subst hnn
  have hmin : min na na = na := Nat.min_self na
  refine C_enter Tryd.func61 rfl 27 Tryd.ntmps61 (Nat.le_of_ble_eq_true rfl) (fun a F => ?_)
  have H := Hp.start22 hga hgb hne
  replace F : Fm 27 [] [(0, sc ga oa na ca), (1, sc gb ob na cb)] a := F.weak _ (subL_of kr);refine C_seqK fun K1 hK1 => C_region ?_;refine T_k F H (.bool false) ?_;clear F; intro a F;refine wpList_nil (hK1 _ _ ?_);clear hK1;refine C_seqK (fun K2 hK2 => ?_);refine C_seqK fun K3 hK3 => C_region ?_;refine T_k F H (sc ga oa na ca) ?_;clear F; intro a F;refine T_k F H (ni na) ?_;clear F; intro a F;refine T_k F H (sc gb ob na cb) ?_;clear F; intro a F;refine T_k F H (ni na) ?_;clear F; intro a F;refine T_val F H kr (.bool false) (fun w _ => R_bin rfl (k := .i64) (a := (na : Nat)) (b := (na : Nat)) kr kr (i_eqn' rfl) w) ?_;clear F; intro a F;refine wpList_nil (hK3 _ _ ?_);clear hK3;refine C_if F false rfl rfl ?_;refine wp_skip ?_;refine hK2 _ _ ?_;clear hK2;refine C_seqK fun K4 hK4 => C_region ?_;refine T_k F H (nb 0) ?_;clear F; intro a F;refine wpList_nil (hK4 _ _ ?_);clear hK4;refine C_seqK (fun K5 hK5 => ?_);refine C_seqK fun K6 hK6 => C_region ?_;refine T_k F H (sc ga oa na ca) ?_;clear F; intro a F;refine T_k F H (sc gb ob na cb) ?_;clear F; intro a F;refine T_callX (α := SlR) F H kr 88 #[sc ga oa na ca, sc gb ob na cb] (fun rX => sc rX.g 0 na rX.cap) (fun rX => [bk rX.g (sl (oct (xorP la lb na na)) rX.rest) 5, ⟨false, ga, .cells aa tya fra⟩, ⟨false, gb, .cells ab tyb frb⟩]) (fun rX => Own (oct (xorP la lb na na)) rX.rest (na) rX.cap 1) (fun w => kr) (fun w H => callsX_newV H ((by have h := xor_any la hla lb hlb ga oa na ca aa tya fra gb ob na cb ab tyb frb haa hab hsm _ (H.at_ (k := 0) rfl) (H.at_ (k := 1) rfl) hne; rw [hmin] at h; exact h))) ?_;clear F H; intro rq7 a v Qrq7 F H;refine T_k F H (ni na) ?_;clear F; intro a F;refine T_k F H (ni 0) ?_;clear F; intro a F;refine wpList_nil ?_;replace F : Fm 27 [] [(17, ni 0), (5, nb 0), (16, ni na), (15, sc rq7.g 0 na rq7.cap)] a := F.weak _ (subL_of kr);refine hK6 _ _ ?_;clear hK6;refine wp_block ?_;refine C_loop (fun m a v => ∃ k, k + m = na ∧ Fm 27 [] [(17, ni k), (5, nb (orP la lb k)), (16, ni na), (15, sc rq7.g 0 na rq7.cap)] a ∧ Hp [] w [bk rq7.g (sl (oct (xorP la lb na na)) rq7.rest) 5, ⟨false, ga, .cells aa tya fra⟩, ⟨false, gb, .cells ab tyb frb⟩] v) (na) ⟨0, Nat.zero_add _, F, H⟩ ?_;clear F H;intro m a v ⟨k, hk, F, H⟩
  rcases m with _ | m
  rotate_left
  · skip
    have hmk := hms k
    have hmk2 := hmx k
    refine C_seqK fun K8 hK8 => C_region ?_;refine T_val F H kr (.bool true) (fun w _ => R_bin rfl (k := .i64) (a := (k : Nat)) (b := (na : Nat)) kr kr (i_lt (by omega)) w) ?_;clear F; intro a F;refine wpList_nil (hK8 _ _ ?_);clear hK8;refine C_seqK (fun K9 hK9 => ?_);refine C_if F true rfl rfl ?_;refine wp_skip ?_;refine hK9 _ _ ?_;clear hK9;refine C_seqK (fun K10 hK10 => ?_);refine wp_block ?_;refine C_seqK fun K11 hK11 => C_region ?_;refine T_val F H kr (pt rq7.g (0 + (k) * 1)) (fun w _ => R_indexS (k := .i64) (g := rq7.g) (off := 0) (len := na) (cap := rq7.cap) rfl Tryd.underlying54 kr (k) kr (by omega) (sz := 1) kr w) ?_;clear F; intro a F;refine T_val F H kr (nb (la.getD k 0 ^^^ lb.getD k 0)) (R_cell (own := true) (g := rq7.g) (all := (sl (oct (xorP la lb na na)) rq7.rest)) (t := 5) (fr := (0, 0)) 0 kr 5 (.tmp 19) rfl (0 + (k) * 1) kr (nb (la.getD k 0 ^^^ lb.getD k 0)) ((congrArg (fun q => ((sl (oct (xorP la lb na na)) rq7.rest))[q]?) (show (0 + (k) * 1) = k by omega)).trans (sl_get (ints_get (xorP_at la lb (by omega))))) _ Tryd.underlying5 rfl) ?_;clear F; intro a F;refine T_k F H (nb (la.getD k 0 ^^^ lb.getD k 0)) ?_;clear F; intro a F;refine wpList_nil (hK11 _ _ ?_);clear hK11;refine C_region ?_;refine T_k F H (nb (orP la lb k)) ?_;clear F; intro a F;refine T_k F H (nb (la.getD k 0 ^^^ lb.getD k 0)) ?_;clear F; intro a F;refine T_val F H kr (nb (orP la lb (k + 1))) (fun w _ => R_bin rfl (k := .u8) (a := (orP la lb k : Nat)) (b := ((la.getD k 0 ^^^ lb.getD k 0) : Nat)) kr kr (i_or8 (a := orP la lb k) (b := la.getD k 0 ^^^ lb.getD k 0) hmk hmk2) w) ?_;clear F; intro a F;refine T_k F H (nb (orP la lb (k + 1))) ?_;clear F; intro a F;refine wpList_nil (hK10 _ _ ?_);clear hK10;refine C_region ?_;refine T_val F H kr (ni (k + 1)) (fun w _ => R_bin rfl (k := .i64) (a := (k : Nat)) (b := (1 : Nat)) kr kr (i_addn64 (a := k) (b := 1) (by omega)) w) ?_;clear F; intro a F;refine T_k F H (ni (k + 1)) ?_;clear F; intro a F;refine wpList_nil ?_;replace F : Fm 27 [] [(17, ni (k + 1)), (5, nb (orP la lb (k + 1))), (16, ni na), (15, sc rq7.g 0 na rq7.cap)] a := F.weak _ (subL_of kr);replace H : Hp [] w [bk rq7.g (sl (oct (xorP la lb na na)) rq7.rest) 5, ⟨false, ga, .cells aa tya fra⟩, ⟨false, gb, .cells ab tyb frb⟩] v := H
    exact ⟨m, Nat.lt_succ_self m, k + 1, by omega, F, H⟩
  have hkt : k = na := by omega
  try rw [hkt] at F
  try rw [hkt] at H
  clear hk;refine C_seqK fun K12 hK12 => C_region ?_;refine T_val F H kr (.bool false) (fun w _ => R_bin rfl (k := .i64) (a := (na : Nat)) (b := (na : Nat)) kr kr (i_nlt (by omega)) w) ?_;clear F; intro a F;refine wpList_nil (hK12 _ _ ?_);clear hK12;refine C_seqK (fun K13 hK13 => ?_);refine C_if F false rfl rfl ?_;refine wp_exit ?_;refine hK5 _ _ ?_;clear hK5;refine C_seqK fun K14 hK14 => C_region ?_;refine T_k F H (nb (orP la lb na)) ?_;clear F; intro a F;refine T_val F H kr (.bool bb) (fun w _ => R_bin rfl (k := .u8) (a := (orP la lb na : Nat)) (b := (0 : Nat)) kr kr (i_eqb (hsame.trans (orP_zero la lb na).symm)) w) ?_;clear F; intro a F;refine T_k F H (.bool bb) ?_;clear F; intro a F;refine wpList_nil (hK14 _ _ ?_);clear hK14;refine wp_ret ?_
  exact C_ret F H (rs := [.tmp 4]) rfl (vs := [.bool bb]) (.tmp rfl .nil) (.bool bb) rfl ⟨rfl, H.kept⟩

end Go.Proofs.YtdejhenkdbjakaaDoor
