/- Keys as cells, made slices, meters: small facts for the walks. -/
import Derived.Test.YtlnlppmhiobgjaaJ3
set_option linter.unusedVariables false
set_option linter.unusedSimpArgs false
namespace Go.Proofs.Ytlnlppmhiobgjaa
open Go Go.RowKit
/-- A key's cells. -/
def keyC (f : Nat → Nat) : List Value := oct (kl f)
theorem keyC_len (f : Nat → Nat) : (keyC f).length = 32 := by rw [keyC, ints_len, kl_len]
theorem keyC_one (f : Nat → Nat) : ∀ u ∈ keyC f, u.oneCell' = true := ints_one _ _
theorem rd_key (f : Nat → Nat) : ∀ j u, (oct (kl f))[j]? = some u → (arrF .u8 32 f)[0 + j]? = some u := fun j u h => by
  rw [Nat.zero_add]
  have hj : j < 32 := by
    have := (List.getElem?_eq_some_iff.1 h).1
    rwa [ints_len, kl_len] at this
  rw [arrF_get f hj]
  rw [ints_get (kl_get f hj)] at h
  exact h
theorem wr8m {a : Nat} : IntKind.u8.wrap (a : Int) = ((a % 256 : Nat) : Int) := by rw [IntKind.wrap_u8]; omega
theorem wr32m {a : Nat} : IntKind.u32.wrap (a : Int) = ((a % 4294967296 : Nat) : Int) := by rw [IntKind.wrap_u32]; omega
theorem Hp.newAt {w0 : World} {L : List Blk} {w : World} (H : Hp [] w0 L w) {k ad : Nat} {ob : Obj} (hk : L[k]? = some ⟨true, ad, ob⟩) : w0.heap.size ≤ ad := by
  rcases H.own _ (List.mem_of_getElem? hk) rfl with h | h
  · exact h
  · cases h
theorem made_ret {w0 : World} {L : List Blk} {w : World} (H : Hp [] w0 L w) {k g : Nat} {cs rest : List Value} {e : TypeId} {m cap size : Nat} (hk : L[k]? = some ⟨true, g, .cells (sl cs rest) e (0, 0)⟩) (own : Own cs rest m cap size) : MadeS [] e size m cs w0 (.returned (.slice (some ⟨g, 0, none⟩) m cap)) w :=
  ⟨⟨g, cap, rest, 0⟩, rfl, own, H.newAt hk, H.at_ hk, H.kept⟩
theorem own_all {cs : List Value} {m : Nat} (h : cs.length = m) (hm : m ≤ maxLen) : Own cs [] m m 1 := ⟨by rw [h, Nat.mul_one], by rw [h, List.length_nil, Nat.mul_one]; omega, Nat.le_refl _, hm⟩
/-- A meter that counted so many, and keeps nothing. -/
def mtr (n : Nat) : Array Value := #[.int .i64 (IntKind.i64.wrap (n : Int)), .bool false, .int .i32 0, .int .u32 0, .slice none 0 0]
theorem mtr_next (n : Nat) : IntKind.i64.wrap (IntKind.i64.wrap (n : Int) + 1) = IntKind.i64.wrap ((n + 1 : Nat) : Int) := by
  rw [IntKind.wrap_i64, IntKind.wrap_i64, IntKind.wrap_i64]; omega
/-! ### Numbers' bytes, one by one -/
def lowP (n sz k : Nat) : List Nat := (List.range sz).map fun i => if i < k then (n >>> (8 * i)) % 256 else 0
theorem lowP_len (n sz k : Nat) : (lowP n sz k).length = sz := by simp [lowP]
theorem lowP_zero (n sz : Nat) : lowP n sz 0 = List.replicate sz 0 := by
  refine List.ext_getElem? fun i => ?_
  by_cases h : i < sz
  · simp [lowP, h]
  · simp [lowP, h]
theorem lowP_all (n sz : Nat) : lowP n sz sz = lowL n sz := by
  refine List.map_congr_left fun i hi => ?_
  rw [if_pos (List.mem_range.1 hi)]
theorem lowP_set (n sz k : Nat) (h : k < sz) : (lowP n sz k).set k ((n >>> (8 * k)) % 256) = lowP n sz (k + 1) := by
  refine List.ext_getElem? fun i => ?_
  rw [List.getElem?_set]
  by_cases e : k = i
  · subst e
    rw [if_pos rfl, if_pos (by rw [lowP_len]; exact h)]
    simp [lowP, h]
  · rw [if_neg e]
    rcases Nat.lt_or_ge i sz with hi | hi
    · simp only [lowP, List.getElem?_map, List.getElem?_range hi, Option.map_some]
      congr 1
      by_cases h1 : i < k
      · rw [if_pos h1, if_pos (by omega)]
      · rw [if_neg h1, if_neg (by omega)]
    · simp [lowP, Nat.not_lt.2 hi]
theorem zeros_ints (k : IntKind) (n : Nat) : List.replicate n (Value.int k 0) = ints k (List.replicate n 0) := by simp [ints]
theorem R_makeI {P : Program} {o : Oper} {V : List (Nat × Value)} {t e : TypeId} {x y : Operand} (ho : o.op = .makeSlice t x y) (hu : P.underlying t = some (.slice e)) {m : Nat} {k k' : IntKind} (hx : evV V x = .int k m) (hy : evV V y = .int k' m) (kk : IntKind) {bytes : Nat} (hi : infoB P e 1 bytes = true) (hz : (P.info? e).bind (·.zero) = some (.int kk 0)) (hb : bytes * m ≤ 281474976710656) (h63 : m ≤ maxLen) (w : World) :
    (execOp (evV V) o).run P w = .ok (.value (.slice (some ⟨w.heap.size, 0, none⟩) m m)) (w.alloc (.cells (sl (ints kk (List.replicate m 0)) []) e (0, 0))) := by
  rw [← zeros_ints]
  exact R_make ho hu hx hy (.int kk 0) hi hz rfl hb h63 w
/-! ### Slices one behind the other -/
structure SlP where
  ad : Option Addr
  n : Nat
  c : Nat
  l : List Nat
def SlP.v (p : SlP) : Value := .slice p.ad p.n p.c
def catP (ps : List SlP) : List Nat := (ps.map (·.l)).flatten
def AllR (w : World) : List SlP → Prop
  | [] => True
  | p :: ps => RdS w p.v p.n (oct p.l) ∧ p.l.length = p.n ∧ AllR w ps
def p0 : SlP := ⟨none, 0, 0, []⟩
def catK (ps : List SlP) : Nat → List Nat
  | 0 => []
  | k + 1 => catK ps k ++ (ps.getD k p0).l
theorem AllR.at_ {w : World} : ∀ {ps : List SlP} {k : Nat}, AllR w ps → k < ps.length → RdS w (ps.getD k p0).v (ps.getD k p0).n (oct (ps.getD k p0).l) ∧ (ps.getD k p0).l.length = (ps.getD k p0).n
  | [], k, _, h => by simp at h
  | p :: ps, 0, h, _ => ⟨h.1, h.2.1⟩
  | p :: ps, k + 1, h, hk => AllR.at_ (ps := ps) (k := k) h.2.2 (by simpa using hk)
theorem catK_take : ∀ (ps : List SlP) (k : Nat), k ≤ ps.length → catK ps k = catP (ps.take k)
  | ps, 0, _ => rfl
  | ps, k + 1, h => by
    rw [catK, catK_take ps k (by omega)]
    have hk : k < ps.length := by omega
    rw [List.take_add_one, List.getElem?_eq_getElem hk, List.getD_eq_getElem?_getD, List.getElem?_eq_getElem hk, Option.getD_some, Option.toList_some]
    unfold catP
    rw [List.map_append, List.flatten_append]
    simp only [List.map_cons, List.map_nil, List.flatten_cons, List.flatten_nil, List.append_nil]
theorem catK_all (ps : List SlP) : catK ps ps.length = catP ps := by rw [catK_take ps _ (Nat.le_refl _), List.take_length]
theorem catK_le (ps : List SlP) : ∀ (j k : Nat), (catK ps j).length ≤ (catK ps (j + k)).length
  | j, 0 => Nat.le_refl _
  | j, k + 1 => by
    have := catK_le ps j k
    rw [← Nat.add_assoc, catK, List.length_append]
    omega
theorem catK_len (ps : List SlP) {k : Nat} (h : k ≤ ps.length) : (catK ps k).length ≤ (catP ps).length := by
  have := catK_le ps k (ps.length - k)
  rw [show k + (ps.length - k) = ps.length by omega, catK_all] at this
  exact this
/-- A list whose first k and last k have changed places. -/
def revP (l : List Nat) (k : Nat) : List Nat := (List.range l.length).map fun i => if i < k ∨ l.length - k ≤ i then l.getD (l.length - 1 - i) 0 else l.getD i 0
theorem revP_len (l : List Nat) (k : Nat) : (revP l k).length = l.length := by simp [revP]
theorem revP_get (l : List Nat) (k : Nat) {i : Nat} (h : i < l.length) : (revP l k)[i]? = some (if i < k ∨ l.length - k ≤ i then l.getD (l.length - 1 - i) 0 else l.getD i 0) := by simp [revP, h]
theorem revP_mid (l : List Nat) (k : Nat) {i : Nat} (h1 : k ≤ i) (h2 : i < l.length - k) : (revP l k)[i]? = some (l.getD i 0) := by
  rw [revP_get l k (by omega), if_neg (by omega)]
theorem revP_zero (l : List Nat) : revP l 0 = l := by
  refine List.ext_getElem? fun i => ?_
  rcases Nat.lt_or_ge i l.length with h | h
  · rw [revP_get l 0 h, if_neg (by omega), List.getD_eq_getElem?_getD, List.getElem?_eq_getElem h]; rfl
  · rw [List.getElem?_eq_none (by rw [revP_len]; exact h), List.getElem?_eq_none h]
theorem revP_end (l : List Nat) (k : Nat) (h : l.length ≤ 2 * k + 1) (h2 : 2 * k ≤ l.length + 1) : revP l k = l.reverse := by
  refine List.ext_getElem? fun i => ?_
  rcases Nat.lt_or_ge i l.length with hi | hi
  · rw [revP_get l k hi, List.getElem?_reverse hi, List.getElem?_eq_getElem (by omega)]
    have e : ∀ j (hj : j < l.length), l.getD j 0 = l[j] := fun j hj => by rw [List.getD_eq_getElem?_getD, List.getElem?_eq_getElem hj]; rfl
    by_cases hc : i < k ∨ l.length - k ≤ i
    · rw [if_pos hc, e _ (by omega)]
    · rw [if_neg hc, e _ hi]
      have : l.length - 1 - i = i := by omega
      simp only [this]
  · rw [List.getElem?_eq_none (by rw [revP_len]; exact hi), List.getElem?_eq_none (by rw [List.length_reverse]; exact hi)]
theorem revP_next (l : List Nat) (k : Nat) (h : 2 * k + 1 < l.length) : ((revP l k).set k (l.getD (l.length - 1 - k) 0)).set (l.length - 1 - k) (l.getD k 0) = revP l (k + 1) := by
  refine List.ext_getElem? fun i => ?_
  rw [List.getElem?_set, List.getElem?_set]
  rcases Nat.lt_or_ge i l.length with hi | hi
  · rw [revP_get l (k + 1) hi]
    by_cases e1 : l.length - 1 - k = i
    · rw [if_pos e1, if_pos (by rw [List.length_set, revP_len]; omega), if_pos (by omega)]
      congr 2; omega
    · rw [if_neg e1]
      by_cases e2 : k = i
      · rw [if_pos e2, if_pos (by rw [revP_len]; omega), if_pos (by omega)]
        congr 2; omega
      · rw [if_neg e2, revP_get l k hi]
        congr 1
        by_cases hc : i < k ∨ l.length - k ≤ i
        · rw [if_pos hc, if_pos (by omega)]
        · rw [if_neg hc, if_neg (by omega)]
  · rw [List.getElem?_eq_none (by rw [revP_len]; exact hi), if_neg (by omega), if_neg (by omega), List.getElem?_eq_none (by rw [revP_len]; exact hi)]
end Go.Proofs.Ytlnlppmhiobgjaa
