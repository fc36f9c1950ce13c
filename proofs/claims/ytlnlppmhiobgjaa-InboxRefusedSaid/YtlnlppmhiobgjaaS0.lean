/- SHA-256 in natural numbers: the plain function that the program and its reference compute. -/
set_option linter.unusedVariables false
set_option linter.unusedSimpArgs false
namespace Go.Proofs.Ytlnlppmhiobgjaa
abbrev m32 : Nat := 4294967296
def add32 (a b : Nat) : Nat := (a + b) % 4294967296
theorem add32_lt (a b : Nat) : add32 a b < 4294967296 := Nat.mod_lt _ (by omega)
theorem add32_comm (a b : Nat) : add32 a b = add32 b a := by unfold add32; rw [Nat.add_comm]
def rotr (x n : Nat) : Nat := ((x <<< (32 - n)) % 4294967296) ||| (x >>> n)
theorem rotr_lt {x n : Nat} (h : x < 4294967296) : rotr x n < 4294967296 := by
  unfold rotr
  refine Nat.or_lt_two_pow (n := 32) (Nat.mod_lt _ (by omega)) ?_
  rw [Nat.shiftRight_eq_div_pow]
  exact Nat.lt_of_le_of_lt (Nat.div_le_self _ _) h
def sg0 (x : Nat) : Nat := rotr x 7 ^^^ rotr x 18 ^^^ (x >>> 3)
def sg1 (x : Nat) : Nat := rotr x 17 ^^^ rotr x 19 ^^^ (x >>> 10)
def bs0 (x : Nat) : Nat := rotr x 2 ^^^ rotr x 13 ^^^ rotr x 22
def bs1 (x : Nat) : Nat := rotr x 6 ^^^ rotr x 11 ^^^ rotr x 25
def chN (e f g : Nat) : Nat := (e &&& f) ^^^ ((4294967295 - e) &&& g)
def majN (a b c : Nat) : Nat := (a &&& b) ^^^ (a &&& c) ^^^ (b &&& c)
theorem xor32 {a b : Nat} (ha : a < 4294967296) (hb : b < 4294967296) : a ^^^ b < 4294967296 := Nat.xor_lt_two_pow (n := 32) ha hb
theorem and32 {a b : Nat} (ha : a < 4294967296) : a &&& b < 4294967296 := Nat.lt_of_le_of_lt Nat.and_le_left ha
theorem shr32 {a n : Nat} (ha : a < 4294967296) : a >>> n < 4294967296 := by
  rw [Nat.shiftRight_eq_div_pow]; exact Nat.lt_of_le_of_lt (Nat.div_le_self _ _) ha
theorem sg0_lt {x : Nat} (h : x < 4294967296) : sg0 x < 4294967296 := xor32 (xor32 (rotr_lt h) (rotr_lt h)) (shr32 h)
theorem sg1_lt {x : Nat} (h : x < 4294967296) : sg1 x < 4294967296 := xor32 (xor32 (rotr_lt h) (rotr_lt h)) (shr32 h)
theorem bs0_lt {x : Nat} (h : x < 4294967296) : bs0 x < 4294967296 := xor32 (xor32 (rotr_lt h) (rotr_lt h)) (rotr_lt h)
theorem bs1_lt {x : Nat} (h : x < 4294967296) : bs1 x < 4294967296 := xor32 (xor32 (rotr_lt h) (rotr_lt h)) (rotr_lt h)
theorem chN_lt {e f g : Nat} (h : e < 4294967296) : chN e f g < 4294967296 := xor32 (and32 h) (and32 (by omega))
theorem majN_lt {a b c : Nat} (h : a < 4294967296) (h2 : b < 4294967296) : majN a b c < 4294967296 := xor32 (xor32 (and32 h) (and32 h)) (and32 h2)

/-- The number that octets make, the highest one first. -/
def hiW (f : Nat → Nat) (off : Nat) : Nat → Nat
  | 0 => 0
  | k + 1 => hiW f off k * 256 + f (off + k)
theorem hiW_lt {f : Nat → Nat} (hf : ∀ i, f i < 256) {off : Nat} : ∀ {k : Nat}, hiW f off k < 256 ^ k
  | 0 => by show 0 < 1; omega
  | k + 1 => by
    have h1 := hiW_lt hf (off := off) (k := k)
    have h2 := hf (off + k)
    have h3 : 256 ^ (k + 1) = 256 ^ k * 256 := Nat.pow_succ _ _
    rw [h3]
    show hiW f off k * 256 + f (off + k) < _
    omega

def rndK : List Nat := [0x428a2f98, 0x71374491, 0xb5c0fbcf, 0xe9b5dba5, 0x3956c25b, 0x59f111f1, 0x923f82a4, 0xab1c5ed5, 0xd807aa98, 0x12835b01, 0x243185be, 0x550c7dc3, 0x72be5d74, 0x80deb1fe, 0x9bdc06a7, 0xc19bf174, 0xe49b69c1, 0xefbe4786, 0x0fc19dc6, 0x240ca1cc, 0x2de92c6f, 0x4a7484aa, 0x5cb0a9dc, 0x76f988da, 0x983e5152, 0xa831c66d, 0xb00327c8, 0xbf597fc7, 0xc6e00bf3, 0xd5a79147, 0x06ca6351, 0x14292967, 0x27b70a85, 0x2e1b2138, 0x4d2c6dfc, 0x53380d13, 0x650a7354, 0x766a0abb, 0x81c2c92e, 0x92722c85, 0xa2bfe8a1, 0xa81a664b, 0xc24b8b70, 0xc76c51a3, 0xd192e819, 0xd6990624, 0xf40e3585, 0x106aa070, 0x19a4c116, 0x1e376c08, 0x2748774c, 0x34b0bcb5, 0x391c0cb3, 0x4ed8aa4a, 0x5b9cca4f, 0x682e6ff3, 0x748f82ee, 0x78a5636f, 0x84c87814, 0x8cc70208, 0x90befffa, 0xa4506ceb, 0xbef9a3f7, 0xc67178f2]
def kF (i : Nat) : Nat := rndK.getD i 0
def st0L : List Nat := [0x6a09e667, 0xbb67ae85, 0x3c6ef372, 0xa54ff53a, 0x510e527f, 0x9b05688c, 0x1f83d9ab, 0x5be0cd19]
def st0 (i : Nat) : Nat := st0L.getD i 0
theorem kF_lt (i : Nat) : kF i < 4294967296 := by
  have h : ∀ x ∈ rndK, x < 4294967296 := by decide
  unfold kF
  rw [List.getD_eq_getElem?_getD]
  cases e : rndK[i]? with
  | none => show 0 < _; omega
  | some v => exact h v (List.mem_of_getElem? e)
theorem st0_lt (i : Nat) : st0 i < 4294967296 := by
  have h : ∀ x ∈ st0L, x < 4294967296 := by decide
  unfold st0
  rw [List.getD_eq_getElem?_getD]
  cases e : st0L[i]? with
  | none => show 0 < _; omega
  | some v => exact h v (List.mem_of_getElem? e)

/-- A block's words. -/
def wF (bl : Nat → Nat) (i : Nat) : Nat :=
  if i < 16 then hiW bl (4 * i) 4
  else if 64 ≤ i then 0
  else add32 (add32 (add32 (wF bl (i - 16)) (sg0 (wF bl (i - 15)))) (wF bl (i - 7))) (sg1 (wF bl (i - 2)))
termination_by i
theorem wF_lo (bl : Nat → Nat) {i : Nat} (h : i < 16) : wF bl i = hiW bl (4 * i) 4 := by rw [wF, if_pos h]
theorem wF_hi (bl : Nat → Nat) {i : Nat} (h : 16 ≤ i) (h2 : i < 64) : wF bl i = add32 (add32 (add32 (wF bl (i - 16)) (sg0 (wF bl (i - 15)))) (wF bl (i - 7))) (sg1 (wF bl (i - 2))) := by
  rw [wF, if_neg (by omega), if_neg (by omega)]
theorem wF_lt {bl : Nat → Nat} (hb : ∀ i, bl i < 256) (i : Nat) : wF bl i < 4294967296 := by
  rcases Nat.lt_or_ge i 16 with h | h
  · rw [wF_lo bl h]
    have := hiW_lt hb (off := 4 * i) (k := 4)
    exact Nat.lt_of_lt_of_le this (by decide)
  · rw [wF, if_neg (by omega)]
    split
    · omega
    · exact add32_lt _ _
def t1N (k w : Nat) (s : Nat → Nat) : Nat := add32 (add32 (add32 (add32 (s 7) (bs1 (s 4))) (chN (s 4) (s 5) (s 6))) k) w
def t2N (s : Nat → Nat) : Nat := add32 (bs0 (s 0)) (majN (s 0) (s 1) (s 2))
/-- One round. -/
def rnd (k w : Nat) (s : Nat → Nat) : Nat → Nat
  | 0 => add32 (t1N k w s) (t2N s)
  | 1 => s 0
  | 2 => s 1
  | 3 => s 2
  | 4 => add32 (s 3) (t1N k w s)
  | 5 => s 4
  | 6 => s 5
  | _ => s 6
theorem rnd_lt {k w : Nat} {s : Nat → Nat} (h : ∀ i, s i < 4294967296) : ∀ i, rnd k w s i < 4294967296
  | 0 => add32_lt _ _
  | 1 => h _
  | 2 => h _
  | 3 => h _
  | 4 => add32_lt _ _
  | 5 => h _
  | 6 => h _
  | _ + 7 => h _
def rnds (bl st : Nat → Nat) : Nat → Nat → Nat
  | 0 => st
  | i + 1 => rnd (kF i) (wF bl i) (rnds bl st i)
theorem rnds_lt {bl st : Nat → Nat} (h : ∀ i, st i < 4294967296) : ∀ n i, rnds bl st n i < 4294967296
  | 0 => h
  | n + 1 => rnd_lt (rnds_lt h n)
/-- The compression. -/
def comp (st bl : Nat → Nat) : Nat → Nat := fun j => add32 (rnds bl st 64 j) (st j)
theorem comp_lt (st bl : Nat → Nat) (i : Nat) : comp st bl i < 4294967296 := add32_lt _ _
/-- A number's bytes, the lowest one last. -/
def highL (n : Nat) : Nat → List Nat
  | 0 => []
  | k + 1 => ((n >>> (8 * k)) % 256) :: highL n k
theorem highL_len (n : Nat) : ∀ k, (highL n k).length = k
  | 0 => rfl
  | k + 1 => by rw [highL, List.length_cons, highL_len n k]
theorem highL_lt (n : Nat) : ∀ k, ∀ x ∈ highL n k, x < 256
  | 0 => by simp [highL]
  | k + 1 => by
    intro x hx
    rw [highL, List.mem_cons] at hx
    rcases hx with rfl | hx
    · exact Nat.mod_lt _ (by omega)
    · exact highL_lt n k x hx
theorem highL_get (n : Nat) : ∀ k i, i < k → (highL n k)[i]? = some ((n >>> (8 * (k - 1 - i))) % 256)
  | 0, _, h => absurd h (by omega)
  | k + 1, 0, _ => rfl
  | k + 1, i + 1, h => by
    rw [highL, List.getElem?_cons_succ, highL_get n k i (by omega)]
    have : k - 1 - i = k + 1 - 1 - (i + 1) := by omega
    rw [this]
/-- A number's bytes, the lowest one first. -/
def lowL (n : Nat) (k : Nat) : List Nat := (List.range k).map fun i => (n >>> (8 * i)) % 256
theorem lowL_len (n k : Nat) : (lowL n k).length = k := by simp [lowL]
theorem lowL_get (n k i : Nat) (h : i < k) : (lowL n k)[i]? = some ((n >>> (8 * i)) % 256) := by simp [lowL, h]
theorem lowL_rev (n k : Nat) : (lowL n k).reverse = highL n k := by
  refine List.ext_getElem? fun i => ?_
  rcases Nat.lt_or_ge i k with h | h
  · rw [highL_get n k i h, List.getElem?_reverse (by rw [lowL_len]; exact h), lowL_len, lowL_get n k _ (by omega)]
  · rw [List.getElem?_eq_none (by rw [List.length_reverse, lowL_len]; exact h), List.getElem?_eq_none (by rw [highL_len]; exact h)]
/-- What stands behind so many bytes. -/
def padL (n : Nat) : List Nat := 128 :: (List.replicate ((119 - n % 64) % 64) 0 ++ highL (n * 8 % 18446744073709551616) 8)
theorem padL_len (n : Nat) : (padL n).length = 1 + (119 - n % 64) % 64 + 8 := by
  simp [padL, highL_len]; omega
theorem pad_div (n : Nat) : (n + (padL n).length) % 64 = 0 := by
  rw [padL_len]; omega
/-- How many blocks. -/
def nBlk (n : Nat) : Nat := (n + 9 + (119 - n % 64) % 64) / 64
theorem nBlk_len (n : Nat) : n + (padL n).length = 64 * nBlk n := by
  rw [padL_len]; unfold nBlk; omega
/-- The k-th block of octets. -/
def blkF (p : List Nat) (k : Nat) : Nat → Nat := fun i => p.getD (64 * k + i) 0
theorem blkF_lt {p : List Nat} (h : ∀ x ∈ p, x < 256) (k i : Nat) : blkF p k i < 256 := by
  unfold blkF
  rw [List.getD_eq_getElem?_getD]
  cases e : p[64 * k + i]? with
  | none => show 0 < _; omega
  | some v => exact h v (List.mem_of_getElem? e)
def hashN (p : List Nat) : Nat → Nat → Nat
  | 0 => st0
  | k + 1 => comp (hashN p k) (blkF p k)
theorem hashN_lt (p : List Nat) : ∀ k i, hashN p k i < 4294967296
  | 0 => st0_lt
  | _ + 1 => comp_lt _ _
def hashP (l : List Nat) : Nat → Nat := hashN (l ++ padL l.length) (nBlk l.length)
theorem hashP_lt (l : List Nat) (i : Nat) : hashP l i < 4294967296 := hashN_lt _ _ _
/-- The digest. -/
def shaK (l : List Nat) : Nat → Nat := fun i => (hashP l (i / 4) >>> (24 - 8 * (i % 4))) % 256
theorem shaK_lt (l : List Nat) (i : Nat) : shaK l i < 256 := Nat.mod_lt _ (by omega)
/-- A key's bytes. -/
def kl (f : Nat → Nat) : List Nat := (List.range 32).map f
theorem kl_len (f : Nat → Nat) : (kl f).length = 32 := by simp [kl]
theorem kl_get (f : Nat → Nat) {i : Nat} (h : i < 32) : (kl f)[i]? = some (f i) := by simp [kl, h]
theorem kl_lt {f : Nat → Nat} (h : ∀ i, i < 32 → f i < 256) : ∀ x ∈ kl f, x < 256 := by
  intro x hx
  obtain ⟨i, hi, rfl⟩ := List.mem_map.1 hx
  exact h i (List.mem_range.1 hi)
/-- A key as a block, each byte mixed with one. -/
def padK (key : List Nat) (x : Nat) : List Nat :=
  let k := if 64 < key.length then kl (shaK key) else key
  (List.range 64).map fun i => k.getD i 0 ^^^ x
/-- A keyed digest. -/
def macK (key b : List Nat) : Nat → Nat := shaK (padK key 0x5c ++ kl (shaK (padK key 0x36 ++ b)))
theorem macK_lt (key b : List Nat) (i : Nat) : macK key b i < 256 := shaK_lt _ _
/-- What a key is derived by. -/
def infoL (label : List Nat) (parts : List (List Nat)) : List Nat := label.length :: label ++ (parts.map fun p => highL p.length 4 ++ p).flatten
def derK (key : Nat → Nat) (label : List Nat) (parts : List (List Nat)) : Nat → Nat := macK (kl key) (infoL label parts ++ [1])
theorem derK_lt (key : Nat → Nat) (label : List Nat) (parts : List (List Nat)) (i : Nat) : derK key label parts i < 256 := macK_lt _ _ _
end Go.Proofs.Ytlnlppmhiobgjaa
