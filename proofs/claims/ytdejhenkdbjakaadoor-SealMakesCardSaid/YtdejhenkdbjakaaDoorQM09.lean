/- J3 J4 -/
import Derived.Test.YtdejhenkdbjakaaDoorQM08
import Derived.Test.YtdejhenkdbjakaaDoorQM00
set_option linter.unusedVariables false
set_option linter.unusedSimpArgs false
set_option maxRecDepth 100000
set_option maxHeartbeats 4000000
namespace Go.Proofs.YtdejhenkdbjakaaDoor
open Go Go.RowKit
theorem wru32 {a : Nat} (h : a < 4294967296) : IntKind.u32.wrap (a : Int) = a := by rw [IntKind.wrap_u32]; omega
theorem bv32 (a : Nat) (ha : a < 4294967296) : (BitVec.ofInt 32 (a : Int)).toNat = a := by
  rw [BitVec.ofInt_natCast, BitVec.toNat_ofNat]
  exact Nat.mod_eq_of_lt (by simpa using ha)
theorem i_add32 {a b : Nat} : intRes .add .u32 a b = some (.int .u32 (add32 a b : Nat)) := by
  simp only [intRes, IntKind.wrap_u32, add32]
  rw [← Int.natCast_add]; congr 2
theorem i_and32 {a b : Nat} (ha : a < 4294967296) (hb : b < 4294967296) : intRes .and .u32 a b = some (.int .u32 (a &&& b : Nat)) := by
  have h : (BitVec.ofInt 32 (a : Int) &&& BitVec.ofInt 32 (b : Int)).toNat = a &&& b := by rw [BitVec.toNat_and, bv32 a ha, bv32 b hb]
  show some (Value.int .u32 (IntKind.u32.wrap ((BitVec.ofInt 32 (a : Int) &&& BitVec.ofInt 32 (b : Int)).toNat : Int))) = _
  rw [h, wru32 (and32 ha)]
theorem i_or32 {a b : Nat} (ha : a < 4294967296) (hb : b < 4294967296) : intRes .or .u32 a b = some (.int .u32 (a ||| b : Nat)) := by
  have h : (BitVec.ofInt 32 (a : Int) ||| BitVec.ofInt 32 (b : Int)).toNat = a ||| b := by rw [BitVec.toNat_or, bv32 a ha, bv32 b hb]
  show some (Value.int .u32 (IntKind.u32.wrap ((BitVec.ofInt 32 (a : Int) ||| BitVec.ofInt 32 (b : Int)).toNat : Int))) = _
  rw [h, wru32 (Nat.or_lt_two_pow (n := 32) ha hb)]
theorem i_xor32 {a b : Nat} (ha : a < 4294967296) (hb : b < 4294967296) : intRes .xor .u32 a b = some (.int .u32 (a ^^^ b : Nat)) := by
  have h : (BitVec.ofInt 32 (a : Int) ^^^ BitVec.ofInt 32 (b : Int)).toNat = a ^^^ b := by rw [BitVec.toNat_xor, bv32 a ha, bv32 b hb]
  show some (Value.int .u32 (IntKind.u32.wrap ((BitVec.ofInt 32 (a : Int) ^^^ BitVec.ofInt 32 (b : Int)).toNat : Int))) = _
  rw [h, wru32 (xor32 ha hb)]
theorem i_sub32 {a : Nat} (ha : a < 4294967296) : intRes .sub .u32 ((4294967295 : Nat) : Int) a = some (.int .u32 (4294967295 - a : Nat)) := by
  have h : ((4294967295 : Nat) : Int) - (a : Int) = ((4294967295 - a : Nat) : Int) := by omega
  simp only [intRes]
  rw [h, wru32 (by omega)]
theorem i_or64 {a b : Nat} (ha : a < 18446744073709551616) (hb : b < 18446744073709551616) : intRes .or .u64 a b = some (.int .u64 (a ||| b : Nat)) := by
  have h : (BitVec.ofInt 64 (a : Int) ||| BitVec.ofInt 64 (b : Int)).toNat = a ||| b := by rw [BitVec.toNat_or, bv64 a ha, bv64 b hb]
  show some (Value.int .u64 (IntKind.u64.wrap ((BitVec.ofInt 64 (a : Int) ||| BitVec.ofInt 64 (b : Int)).toNat : Int))) = _
  rw [h, wru64 (Nat.or_lt_two_pow (n := 64) ha hb)]
theorem i_subn64 {a b : Nat} (h : b ≤ a) (ha : a < 9223372036854775808) : intRes .sub .i64 a b = some (.int .i64 (a - b : Nat)) := by
  have e : (a : Int) - (b : Int) = ((a - b : Nat) : Int) := by omega
  simp only [intRes]; rw [e, wr_i64 (by omega)]
theorem i_muln64 {a b : Nat} (h : a * b < 9223372036854775808) : intRes .mul .i64 a b = some (.int .i64 (a * b : Nat)) := by
  simp only [intRes]; rw [← Int.natCast_mul, wr_i64 (by omega)]
theorem i_gtn {k : IntKind} {a b : Nat} (h : b < a) : intRes .gtr k a b = some (.bool true) := by
  simp only [intRes, Option.some.injEq, Value.bool.injEq, decide_eq_true_eq]; omega
theorem i_ngtn {k : IntKind} {a b : Nat} (h : a ≤ b) : intRes .gtr k a b = some (.bool false) := by
  simp only [intRes, Option.some.injEq, Value.bool.injEq, decide_eq_false_iff_not]; omega
theorem min_bits {n b : Nat} (h : n ≤ b) : min ((n : Int)).toNat b = n := by
  rw [Int.toNat_natCast]; exact Nat.min_eq_left h
theorem shr_val {k : IntKind} {a n : Nat} (hn : n ≤ k.bits) : (Value.int k ((a >>> n : Nat) : Int)) = .int k ((a : Int).fdiv (2 ^ min ((n : Int)).toNat k.bits)) := by
  rw [min_bits hn, Nat.shiftRight_eq_div_pow, Int.natCast_ediv, Int.natCast_pow]
  congr 1
  exact (Int.fdiv_eq_ediv_of_nonneg _ (Int.le_of_lt (Int.pow_pos (by decide)))).symm
theorem shl32_val {a n : Nat} (hn : n ≤ 32) : (Value.int .u32 ((a <<< n) % 4294967296 : Nat)) = .int .u32 (IntKind.u32.wrap ((a : Int) * 2 ^ min ((n : Int)).toNat IntKind.u32.bits)) := by
  rw [min_bits (by exact hn), IntKind.wrap_u32, Nat.shiftLeft_eq, Int.natCast_emod, Int.natCast_mul, Int.natCast_pow]
  rfl
theorem shl64_val {a n : Nat} (hn : n ≤ 64) : (Value.int .u64 ((a <<< n) % 18446744073709551616 : Nat)) = .int .u64 (IntKind.u64.wrap ((a : Int) * 2 ^ min ((n : Int)).toNat IntKind.u64.bits)) := by
  have hw : ∀ x : Int, IntKind.u64.wrap x = x % 18446744073709551616 := fun x => by first | exact IntKind.wrap_u64 _ | rw [IntKind.wrap_u64] | rfl
  rw [min_bits (by exact hn), hw, Nat.shiftLeft_eq, Int.natCast_emod, Int.natCast_mul, Int.natCast_pow]
  rfl
section
variable {P : Program} {o : Oper} {V : List (Nat × Value)}
theorem R_shl {t t' : TypeId} {x y : Operand} (ho : o.op = .binOp .shl t x y t') {k yk : IntKind} {a b : Int} (hx : evV V x = .int k a) (hy : evV V y = .int yk b) (hb : 0 ≤ b) {v : Value} (hv : v = .int k (k.wrap (a * 2 ^ min b.toNat k.bits))) (w : World) : (execOp (evV V) o).run P w = .ok (.value v) w := by
  have hg : (eqGuard .shl t x y (.int k a) (.int yk b)).run P w = .ok () w := by
    unfold eqGuard
    simp [Sem.run_bind, Sem.run_pure, go_sem]
  subst hv
  unfold execOp
  simp only [ho, hx, hy, Sem.run_bind, hg, Result.andThen_ok]
  have : ¬ b < 0 := by omega
  simp [binOp, Op.shift, this, Sem.run_bind, Sem.run_pure, go_sem]
theorem R_not32 {t : TypeId} {x : Operand} (ho : o.op = .unOp .xor t x) {a : Nat} (hx : evV V x = .int .u32 a) (ha : a < 4294967296) (w : World) : (execOp (evV V) o).run P w = .ok (.value (.int .u32 (4294967295 - a : Nat))) w := by
  have h1 : (BitVec.ofInt 32 (4294967295 : Int) ^^^ BitVec.ofInt 32 (a : Int)).toNat = 4294967295 - a := by
    have e : BitVec.ofInt 32 (4294967295 : Int) = BitVec.allOnes 32 := by decide
    rw [e, BitVec.allOnes_xor, BitVec.toNat_not, bv32 a ha]
  unfold execOp
  simp only [ho, hx]
  show (Sem.run P (do pure (Next.value (← Op.unary .xor (.int .u32 a)))) w) = _
  have h3 : Op.unary .xor (.int .u32 a) = pure (.int .u32 (IntKind.u32.wrap ((BitVec.ofInt 32 (4294967295 : Int) ^^^ BitVec.ofInt 32 (a : Int)).toNat : Int))) := rfl
  rw [h3, h1, wru32 (by omega)]
  rfl
theorem R_neg64 {t : TypeId} {x : Operand} (ho : o.op = .unOp .neg t x) {a : Nat} (hx : evV V x = .int .i64 a) (ha : a < 9223372036854775808) (w : World) : (execOp (evV V) o).run P w = .ok (.value (.int .i64 (-(a : Int)))) w := by
  unfold execOp
  simp only [ho, hx]
  have h3 : Op.unary .neg (.int .i64 a) = pure (.int .i64 (IntKind.i64.wrap (0 - (a : Int)))) := rfl
  rw [h3, wr_i64 (by omega), Int.zero_sub]
  rfl
theorem R_indexV {t e : TypeId} {x y : Operand} (ho : o.op = .index t x y) {len : Nat} (hu : P.underlying t = some (.array len e)) {d : TypeDesc} (hue : P.underlying e = some d) (hd : (match d with | .struct _ | .array _ _ => true | _ => false) = false) (hs : (P.info? e).map (·.size) = some 1) {cs : Array Value} (hx : evV V x = .agg cs) {k : IntKind} (i : Nat) (hy : evV V y = .int k i) (hi : i < len) (v : Value) (hv : cs[i]? = some v) (w : World) :
    (execOp (evV V) o).run P w = .ok (.value v) w := by
  have hsz : (sizeOf e).run P w = .ok 1 w := by
    cases hq : P.info? e with
    | none => simp [hq] at hs
    | some j =>
      have hs' : j.size = 1 := by simpa [hq] using hs
      simp [sizeOf, typeInfo, hq, hs', Sem.run_bind, go_sem]
  have hagg : (isAgg e).run P w = .ok false w := by
    unfold isAgg
    rw [Sem.run_bind, run_underlying hue w]
    cases d <;> simp_all
  have h1 : (0 : Int) ≤ i ∧ (i : Int) < len := by omega
  have h2 : ¬ len ≤ i := by omega
  have hv1 : cs[i]! = v := by
    rw [getElem!_def, hv]
  obtain ⟨hlt, hv2⟩ := Array.getElem?_eq_some_iff.1 hv
  unfold execOp
  simp only [ho, hx, hy]
  simp [Instr.index, asIntOf, Sem.run_bind, run_underlying hu w, h1, h2, hi, hsz, hagg, hv1, hv2, hlt, hv, go_sem]
end
end Go.Proofs.YtdejhenkdbjakaaDoor
namespace Go.Proofs.YtdejhenkdbjakaaDoor
open Go Go.RowKit
theorem rd_key (f : Nat → Nat) : ∀ j u, (oct (kl f))[j]? = some u → (arrF .u8 32 f)[0 + j]? = some u := fun j u h => by
  rw [Nat.zero_add]
  have hj : j < 32 := by
    have := (List.getElem?_eq_some_iff.1 h).1
    rwa [ints_len, kl_len] at this
  rw [arrF_get f hj]
  rw [ints_get (kl_get f hj)] at h
  exact h
theorem wr8m {a : Nat} : IntKind.u8.wrap (a : Int) = ((a % 256 : Nat) : Int) := by rw [IntKind.wrap_u8]; omega
theorem Hp.newAt {w0 : World} {L : List Blk} {w : World} (H : Hp [] w0 L w) {k ad : Nat} {ob : Obj} (hk : L[k]? = some ⟨true, ad, ob⟩) : w0.heap.size ≤ ad := by
  rcases H.own _ (List.mem_of_getElem? hk) rfl with h | h
  · exact h
  · cases h
theorem made_ret {w0 : World} {L : List Blk} {w : World} (H : Hp [] w0 L w) {k g : Nat} {cs rest : List Value} {e : TypeId} {m cap size : Nat} (hk : L[k]? = some ⟨true, g, .cells (sl cs rest) e (0, 0)⟩) (own : Own cs rest m cap size) : MadeS [] e size m cs w0 (.returned (.slice (some ⟨g, 0, none⟩) m cap)) w :=
  ⟨⟨g, cap, rest, 0⟩, rfl, own, H.newAt hk, H.at_ hk, H.kept⟩
theorem own_all {cs : List Value} {m : Nat} (h : cs.length = m) (hm : m ≤ maxLen) : Own cs [] m m 1 := ⟨by rw [h, Nat.mul_one], by rw [h, List.length_nil, Nat.mul_one]; omega, Nat.le_refl _, hm⟩
def mtr (n : Nat) : Array Value := #[.int .i64 (IntKind.i64.wrap (n : Int)), .bool false, .int .i32 0, .int .u32 0, .slice none 0 0]
theorem mtr_next (n : Nat) : IntKind.i64.wrap (IntKind.i64.wrap (n : Int) + 1) = IntKind.i64.wrap ((n + 1 : Nat) : Int) := by
  rw [IntKind.wrap_i64, IntKind.wrap_i64, IntKind.wrap_i64]; omega
/-! ### Numbers' bytes, one by one -/
def lowP (n sz k : Nat) : List Nat := (List.range sz).map fun i => if i < k then (n >>> (8 * i)) % 256 else 0
theorem lowP_len (n sz k : Nat) : (lowP n sz k).length = sz := by simp [lowP]
theorem lowP_zero (n sz : Nat) : lowP n sz 0 = List.replicate sz 0 := by
  refine List.ext_getElem? fun i => ?_
  by_cases h : i < sz
  · simp [lowP, h]
  · simp [lowP, h]
theorem lowP_all (n sz : Nat) : lowP n sz sz = lowL n sz := by
  refine List.map_congr_left fun i hi => ?_
  rw [if_pos (List.mem_range.1 hi)]
theorem lowP_set (n sz k : Nat) (h : k < sz) : (lowP n sz k).set k ((n >>> (8 * k)) % 256) = lowP n sz (k + 1) := by
  refine List.ext_getElem? fun i => ?_
  rw [List.getElem?_set]
  by_cases e : k = i
  · subst e
    rw [if_pos rfl, if_pos (by rw [lowP_len]; exact h)]
    simp [lowP, h]
  · rw [if_neg e]
    rcases Nat.lt_or_ge i sz with hi | hi
    · simp only [lowP, List.getElem?_map, List.getElem?_range hi, Option.map_some]
      congr 1
      by_cases h1 : i < k
      · rw [if_pos h1, if_pos (by omega)]
      · rw [if_neg h1, if_neg (by omega)]
    · simp [lowP, Nat.not_lt.2 hi]
theorem zeros_ints (k : IntKind) (n : Nat) : List.replicate n (Value.int k 0) = ints k (List.replicate n 0) := by simp [ints]
theorem R_makeI {P : Program} {o : Oper} {V : List (Nat × Value)} {t e : TypeId} {x y : Operand} (ho : o.op = .makeSlice t x y) (hu : P.underlying t = some (.slice e)) {m : Nat} {k k' : IntKind} (hx : evV V x = .int k m) (hy : evV V y = .int k' m) (kk : IntKind) {bytes : Nat} (hi : infoB P e 1 bytes = true) (hz : (P.info? e).bind (·.zero) = some (.int kk 0)) (hb : bytes * m ≤ 281474976710656) (h63 : m ≤ maxLen) (w : World) :
    (execOp (evV V) o).run P w = .ok (.value (.slice (some ⟨w.heap.size, 0, none⟩) m m)) (w.alloc (.cells (sl (ints kk (List.replicate m 0)) []) e (0, 0))) := by
  rw [← zeros_ints]
  exact R_make ho hu hx hy (.int kk 0) hi hz rfl hb h63 w
/-! ### Slices one behind the other -/
structure SlP where
  ad : Option Addr
  n : Nat
  c : Nat
  l : List Nat
def SlP.v (p : SlP) : Value := .slice p.ad p.n p.c
def catP (ps : List SlP) : List Nat := (ps.map (·.l)).flatten
def AllR (w : World) : List SlP → Prop
  | [] => True
  | p :: ps => RdS w p.v p.n (oct p.l) ∧ p.l.length = p.n ∧ AllR w ps
def p0 : SlP := ⟨none, 0, 0, []⟩
def catK (ps : List SlP) : Nat → List Nat
  | 0 => []
  | k + 1 => catK ps k ++ (ps.getD k p0).l
theorem AllR.at_ {w : World} : ∀ {ps : List SlP} {k : Nat}, AllR w ps → k < ps.length → RdS w (ps.getD k p0).v (ps.getD k p0).n (oct (ps.getD k p0).l) ∧ (ps.getD k p0).l.length = (ps.getD k p0).n
  | [], k, _, h => by simp at h
  | p :: ps, 0, h, _ => ⟨h.1, h.2.1⟩
  | p :: ps, k + 1, h, hk => AllR.at_ (ps := ps) (k := k) h.2.2 (by simpa using hk)
theorem catK_take : ∀ (ps : List SlP) (k : Nat), k ≤ ps.length → catK ps k = catP (ps.take k)
  | ps, 0, _ => rfl
  | ps, k + 1, h => by
    rw [catK, catK_take ps k (by omega)]
    have hk : k < ps.length := by omega
    rw [List.take_add_one, List.getElem?_eq_getElem hk, List.getD_eq_getElem?_getD, List.getElem?_eq_getElem hk, Option.getD_some, Option.toList_some]
    unfold catP
    rw [List.map_append, List.flatten_append]
    simp only [List.map_cons, List.map_nil, List.flatten_cons, List.flatten_nil, List.append_nil]
theorem catK_all (ps : List SlP) : catK ps ps.length = catP ps := by rw [catK_take ps _ (Nat.le_refl _), List.take_length]
theorem catK_le (ps : List SlP) : ∀ (j k : Nat), (catK ps j).length ≤ (catK ps (j + k)).length
  | j, 0 => Nat.le_refl _
  | j, k + 1 => by
    have := catK_le ps j k
    rw [← Nat.add_assoc, catK, List.length_append]
    omega
theorem catK_len (ps : List SlP) {k : Nat} (h : k ≤ ps.length) : (catK ps k).length ≤ (catP ps).length := by
  have := catK_le ps k (ps.length - k)
  rw [show k + (ps.length - k) = ps.length by omega, catK_all] at this
  exact this
def revP (l : List Nat) (k : Nat) : List Nat := (List.range l.length).map fun i => if i < k ∨ l.length - k ≤ i then l.getD (l.length - 1 - i) 0 else l.getD i 0
theorem revP_len (l : List Nat) (k : Nat) : (revP l k).length = l.length := by simp [revP]
theorem revP_get (l : List Nat) (k : Nat) {i : Nat} (h : i < l.length) : (revP l k)[i]? = some (if i < k ∨ l.length - k ≤ i then l.getD (l.length - 1 - i) 0 else l.getD i 0) := by simp [revP, h]
theorem revP_mid (l : List Nat) (k : Nat) {i : Nat} (h1 : k ≤ i) (h2 : i < l.length - k) : (revP l k)[i]? = some (l.getD i 0) := by
  rw [revP_get l k (by omega), if_neg (by omega)]
theorem revP_zero (l : List Nat) : revP l 0 = l := by
  refine List.ext_getElem? fun i => ?_
  rcases Nat.lt_or_ge i l.length with h | h
  · rw [revP_get l 0 h, if_neg (by omega), List.getD_eq_getElem?_getD, List.getElem?_eq_getElem h]; rfl
  · rw [List.getElem?_eq_none (by rw [revP_len]; exact h), List.getElem?_eq_none h]
theorem revP_end (l : List Nat) (k : Nat) (h : l.length ≤ 2 * k + 1) (h2 : 2 * k ≤ l.length + 1) : revP l k = l.reverse := by
  refine List.ext_getElem? fun i => ?_
  rcases Nat.lt_or_ge i l.length with hi | hi
  · rw [revP_get l k hi, List.getElem?_reverse hi, List.getElem?_eq_getElem (by omega)]
    have e : ∀ j (hj : j < l.length), l.getD j 0 = l[j] := fun j hj => by rw [List.getD_eq_getElem?_getD, List.getElem?_eq_getElem hj]; rfl
    by_cases hc : i < k ∨ l.length - k ≤ i
    · rw [if_pos hc, e _ (by omega)]
    · rw [if_neg hc, e _ hi]
      have : l.length - 1 - i = i := by omega
      simp only [this]
  · rw [List.getElem?_eq_none (by rw [revP_len]; exact hi), List.getElem?_eq_none (by rw [List.length_reverse]; exact hi)]
theorem revP_next (l : List Nat) (k : Nat) (h : 2 * k + 1 < l.length) : ((revP l k).set k (l.getD (l.length - 1 - k) 0)).set (l.length - 1 - k) (l.getD k 0) = revP l (k + 1) := by
  refine List.ext_getElem? fun i => ?_
  rw [List.getElem?_set, List.getElem?_set]
  rcases Nat.lt_or_ge i l.length with hi | hi
  · rw [revP_get l (k + 1) hi]
    by_cases e1 : l.length - 1 - k = i
    · rw [if_pos e1, if_pos (by rw [List.length_set, revP_len]; omega), if_pos (by omega)]
      congr 2; omega
    · rw [if_neg e1]
      by_cases e2 : k = i
      · rw [if_pos e2, if_pos (by rw [revP_len]; omega), if_pos (by omega)]
        congr 2; omega
      · rw [if_neg e2, revP_get l k hi]
        congr 1
        by_cases hc : i < k ∨ l.length - k ≤ i
        · rw [if_pos hc, if_pos (by omega)]
        · rw [if_neg hc, if_neg (by omega)]
  · rw [List.getElem?_eq_none (by rw [revP_len]; exact hi), if_neg (by omega), if_neg (by omega), List.getElem?_eq_none (by rw [revP_len]; exact hi)]

end Go.Proofs.YtdejhenkdbjakaaDoor
