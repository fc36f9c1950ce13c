/- ChaCha20: words, quarter rounds, blocks: plain. -/
import Derived.Test.YtdejhenkdbjakaaDoorW1
set_option linter.unusedVariables false
set_option linter.unusedSimpArgs false
namespace Go.Proofs.YtdejhenkdbjakaaDoor
open Go Go.RowKit
def rol (x n : Nat) : Nat := ((x <<< n) % 4294967296) ||| (x >>> (32 - n))
theorem rol_lt {x n : Nat} (h : x < 4294967296) : rol x n < 4294967296 := by
  unfold rol
  refine Nat.or_lt_two_pow (n := 32) (Nat.mod_lt _ (by omega)) ?_
  rw [Nat.shiftRight_eq_div_pow]
  exact Nat.lt_of_le_of_lt (Nat.div_le_self _ _) h
def sA (w : Nat → Nat) (a b : Nat) : Nat → Nat := upd w a (add32 (w a) (w b))
def sX (w : Nat → Nat) (d a n : Nat) : Nat → Nat := upd w d (rol (w d ^^^ w a) n)
def hq (w : Nat → Nat) (a b c d m n : Nat) : Nat → Nat := sX (sA (sX (sA w a b) d a m) c d) b c n
theorem upd_lt {w : Nat → Nat} {m : Nat} (h : ∀ i, w i < m) {k v : Nat} (hv : v < m) (i : Nat) : upd w k v i < m := by
  unfold upd; split
  · exact hv
  · exact h i
theorem sA_lt {w : Nat → Nat} (h : ∀ i, w i < 4294967296) (a b i : Nat) : sA w a b i < 4294967296 := upd_lt h (add32_lt _ _) i
theorem sX_lt {w : Nat → Nat} (h : ∀ i, w i < 4294967296) (d a n i : Nat) : sX w d a n i < 4294967296 := upd_lt h (rol_lt (Nat.xor_lt_two_pow (n := 32) (h d) (h a))) i
theorem hq_lt {w : Nat → Nat} (h : ∀ i, w i < 4294967296) (a b c d m n i : Nat) : hq w a b c d m n i < 4294967296 := sX_lt (sA_lt (sX_lt (sA_lt h a b) d a m) c d) b c n i
/-- The turns of a quarter round's halves. -/
def tn1 (k : Nat) : Nat := if k = 0 then 16 else 8
def tn2 (k : Nat) : Nat := if k = 0 then 12 else 7
def qs (w : Nat → Nat) (a b c d : Nat) : Nat → Nat → Nat
  | 0 => w
  | k + 1 => hq (qs w a b c d k) a b c d (tn1 k) (tn2 k)
theorem qs_lt {w : Nat → Nat} (h : ∀ i, w i < 4294967296) (a b c d : Nat) : ∀ k i, qs w a b c d k i < 4294967296
  | 0, i => h i
  | k + 1, i => hq_lt (qs_lt h a b c d k) a b c d _ _ i
/-- A double round's quarter rounds. -/
def qA (k : Nat) : Nat := k % 4
def qB (k : Nat) : Nat := 4 + (k + k / 4) % 4
def qC (k : Nat) : Nat := 8 + (k + 2 * (k / 4)) % 4
def qD (k : Nat) : Nat := 12 + (k + 3 * (k / 4)) % 4
def dr (w : Nat → Nat) : Nat → Nat → Nat
  | 0 => w
  | k + 1 => qs (dr w k) (qA k) (qB k) (qC k) (qD k) 2
theorem dr_lt {w : Nat → Nat} (h : ∀ i, w i < 4294967296) : ∀ k i, dr w k i < 4294967296
  | 0, i => h i
  | k + 1, i => qs_lt (dr_lt h k) _ _ _ _ 2 i
def rn (w : Nat → Nat) : Nat → Nat → Nat
  | 0 => w
  | k + 1 => dr (rn w k) 8
theorem rn_lt {w : Nat → Nat} (h : ∀ i, w i < 4294967296) : ∀ k i, rn w k i < 4294967296
  | 0, i => h i
  | k + 1, i => dr_lt (rn_lt h k) 8 i
/-- A number's octets, the lowest one first. -/
def loS (b : Nat → Nat) (off : Nat) : Nat → Nat
  | 0 => 0
  | k + 1 => loS b off k + b (off + k) * 256 ^ k
theorem loS_lt {b : Nat → Nat} (h : ∀ i, b i < 256) (off : Nat) : ∀ k, loS b off k < 256 ^ k
  | 0 => by simp [loS]
  | k + 1 => by
    have h1 := loS_lt h off k
    have h2 := h (off + k)
    have h3 : b (off + k) * 256 ^ k ≤ 255 * 256 ^ k := Nat.mul_le_mul_right _ (by omega)
    rw [loS, Nat.pow_succ]
    omega
theorem loS4_lt {b : Nat → Nat} (h : ∀ i, b i < 256) (off : Nat) : loS b off 4 < 4294967296 := loS_lt h off 4
theorem loS_step {b : Nat → Nat} (h : ∀ i, b i < 256) (off : Nat) {k : Nat} (hk : k < 4) : (loS b off k) ||| (((b (off + k)) <<< (8 * k)) % 18446744073709551616) = loS b off (k + 1) := by
  have h1 := loS_lt h off k
  have h2 := h (off + k)
  have e : 256 ^ k = 2 ^ (8 * k) := by rw [Nat.pow_mul]
  have h3 : 2 ^ (8 * k) ≤ 2 ^ 24 := Nat.pow_le_pow_right (by decide) (by omega)
  have h4 : b (off + k) * 2 ^ (8 * k) ≤ 255 * 2 ^ 24 := Nat.mul_le_mul (by omega) h3
  rw [loS, Nat.shiftLeft_eq, Nat.mod_eq_of_lt (by omega), e, Nat.or_comm, ← Nat.shiftLeft_eq, ← Nat.shiftLeft_add_eq_or_of_lt (by rw [← e]; exact h1), Nat.shiftLeft_eq]
  omega
/-- The words that a block begins with. -/
def stW (i : Nat) : Nat := if i = 0 then 1634760805 else if i = 1 then 857760878 else if i = 2 then 2036477234 else 1797285236
theorem stW_lt (i : Nat) : stW i < 4294967296 := by unfold stW; repeat' split
                                                    all_goals omega
def fW (key : Nat → Nat) (ct : Nat) (nc : Nat → Nat) : Nat → Nat := fun i => if i < 4 then stW i else if i < 12 then loS key (4 * (i - 4)) 4 else if i = 12 then ct else loS nc (4 * (i - 13)) 4
theorem fW_lt {key : Nat → Nat} (hk : ∀ i, key i < 256) {ct : Nat} (hc : ct < 4294967296) {nc : Nat → Nat} (hn : ∀ i, nc i < 256) (i : Nat) : fW key ct nc i < 4294967296 := by
  unfold fW
  split
  · exact stW_lt i
  · split
    · exact loS4_lt hk _
    · split
      · exact hc
      · exact loS4_lt hn _
/-- The words that are there, so far m of them. -/
def fP (key : Nat → Nat) (ct : Nat) (nc : Nat → Nat) (m : Nat) : Nat → Nat := fun i => if i < m then fW key ct nc i else 0
theorem fP_lt {key : Nat → Nat} (hk : ∀ i, key i < 256) {ct : Nat} (hc : ct < 4294967296) {nc : Nat → Nat} (hn : ∀ i, nc i < 256) (m i : Nat) : fP key ct nc m i < 4294967296 := by
  unfold fP; split
  · exact fW_lt hk hc hn i
  · omega
theorem fP_step (key : Nat → Nat) (ct : Nat) (nc : Nat → Nat) {m v : Nat} (h : v = fW key ct nc m) : upd (fP key ct nc m) m v = fP key ct nc (m + 1) := by
  subst h
  funext j
  unfold upd fP
  by_cases e : j = m
  · subst e; rw [if_pos rfl, if_pos (by omega)]
  · rw [if_neg e]
    by_cases h1 : j < m
    · rw [if_pos h1, if_pos (by omega)]
    · rw [if_neg h1, if_neg (by omega)]
theorem fP_key (key : Nat → Nat) (ct : Nat) (nc : Nat → Nat) {k : Nat} (h : k < 8) : upd (fP key ct nc (4 + k)) (4 + k) (loS key (4 * k) 4) = fP key ct nc (4 + (k + 1)) :=
  fP_step key ct nc (by unfold fW; rw [if_neg (by omega), if_pos (by omega), show 4 + k - 4 = k by omega])
theorem fP_ct (key : Nat → Nat) (ct : Nat) (nc : Nat → Nat) : upd (fP key ct nc 12) 12 ct = fP key ct nc 13 := fP_step key ct nc (by unfold fW; rw [if_neg (by omega), if_neg (by omega), if_pos rfl])
theorem fP_nc (key : Nat → Nat) (ct : Nat) (nc : Nat → Nat) {k : Nat} (h : k < 3) : upd (fP key ct nc (13 + k)) (13 + k) (loS nc (4 * k) 4) = fP key ct nc (13 + (k + 1)) :=
  fP_step key ct nc (by unfold fW; rw [if_neg (by omega), if_neg (by omega), if_neg (by omega), show 13 + k - 13 = k by omega])
theorem fP_all (key : Nat → Nat) (ct : Nat) (nc : Nat → Nat) : arrF .u32 16 (fP key ct nc 16) = arrF .u32 16 (fW key ct nc) := arrF_congr fun i hi => if_pos hi
/-- A block of the stream. -/
def ccF (key : Nat → Nat) (ct : Nat) (nc : Nat → Nat) : Nat → Nat := fun i => (add32 (rn (fW key ct nc) 10 (i / 4)) (fW key ct nc (i / 4)) >>> (8 * (i % 4))) % 256
theorem ccF_lt (key : Nat → Nat) (ct : Nat) (nc : Nat → Nat) (i : Nat) : ccF key ct nc i < 256 := Nat.mod_lt _ (by omega)
def ccP (key : Nat → Nat) (ct : Nat) (nc : Nat → Nat) (m : Nat) : Nat → Nat := fun i => if i < m then ccF key ct nc i else 0
theorem ccP_lt (key : Nat → Nat) (ct : Nat) (nc : Nat → Nat) (m i : Nat) : ccP key ct nc m i < 256 := by
  unfold ccP; split
  · exact ccF_lt key ct nc i
  · omega
theorem ccP_step (key : Nat → Nat) (ct : Nat) (nc : Nat → Nat) (m : Nat) : upd (ccP key ct nc m) m (ccF key ct nc m) = ccP key ct nc (m + 1) := by
  funext j
  unfold upd ccP
  by_cases e : j = m
  · subst e; rw [if_pos rfl, if_pos (by omega)]
  · rw [if_neg e]
    by_cases h1 : j < m
    · rw [if_pos h1, if_pos (by omega)]
    · rw [if_neg h1, if_neg (by omega)]
theorem ccP_all (key : Nat → Nat) (ct : Nat) (nc : Nat → Nat) : arrF .u8 64 (ccP key ct nc 64) = arrF .u8 64 (ccF key ct nc) := arrF_congr fun i hi => if_pos hi

/-- A mixed text: what the stream's octet i is; the first m octets. -/
def mxB (key nc : Nat → Nat) (i : Nat) : Nat := ccF key (i / 64) nc (i % 64)
def mxP (key nc : Nat → Nat) (tl : List Nat) (m : Nat) : List Nat := (List.range m).map fun i => tl.getD i 0 ^^^ mxB key nc i
theorem mxP_len (key nc : Nat → Nat) (tl : List Nat) (m : Nat) : (mxP key nc tl m).length = m := by simp [mxP]
theorem mxP_get (key nc : Nat → Nat) (tl : List Nat) {m i : Nat} (h : i < m) : (mxP key nc tl m)[i]? = some (tl.getD i 0 ^^^ mxB key nc i) := by simp [mxP, h]
theorem mxP_zero (key nc : Nat → Nat) (tl : List Nat) : mxP key nc tl 0 = [] := rfl
theorem mxP_snoc (key nc : Nat → Nat) (tl : List Nat) (m : Nat) : mxP key nc tl m ++ [tl.getD m 0 ^^^ mxB key nc m] = mxP key nc tl (m + 1) := by
  unfold mxP
  rw [List.range_succ, List.map_append]
  rfl
theorem mxB_lt (key nc : Nat → Nat) (i : Nat) : mxB key nc i < 256 := ccF_lt _ _ _ _
end Go.Proofs.YtdejhenkdbjakaaDoor
