/- E1 -/
import Derived.Test.YtdejhenkdbjakaaDoorQM00
set_option linter.unusedVariables false
set_option linter.unusedSimpArgs false
set_option maxRecDepth 100000
set_option maxHeartbeats 4000000
namespace Go.Proofs.YtdejhenkdbjakaaDoor
def pk8 (f : Nat → Nat) : Nat := (((((((f 0 * 4294967296 + f 1) * 4294967296 + f 2) * 4294967296 + f 3) * 4294967296 + f 4) * 4294967296 + f 5) * 4294967296 + f 6) * 4294967296 + f 7)
theorem pk8_at {f : Nat → Nat} (h : ∀ i, f i < 4294967296) : (pk8 f / 2 ^ 224) % 4294967296 = f 0 ∧ (pk8 f / 2 ^ 192) % 4294967296 = f 1 ∧ (pk8 f / 2 ^ 160) % 4294967296 = f 2 ∧ (pk8 f / 2 ^ 128) % 4294967296 = f 3 ∧ (pk8 f / 2 ^ 96) % 4294967296 = f 4 ∧ (pk8 f / 2 ^ 64) % 4294967296 = f 5 ∧ (pk8 f / 2 ^ 32) % 4294967296 = f 6 ∧ pk8 f % 4294967296 = f 7 := by
  unfold pk8
  have h0 := h 0; have h1 := h 1; have h2 := h 2; have h3 := h 3; have h4 := h 4; have h5 := h 5; have h6 := h 6; have h7 := h 7
  generalize f 0 = f0 at *; generalize f 1 = f1 at *; generalize f 2 = f2 at *; generalize f 3 = f3 at *; generalize f 4 = f4 at *; generalize f 5 = f5 at *; generalize f 6 = f6 at *; generalize f 7 = f7 at *
  refine ⟨?_, ?_, ?_, ?_, ?_, ?_, ?_, ?_⟩ <;> omega
def rFrom (bl : Nat → Nat) (i : Nat) : (Nat → Nat) → Nat → Nat → Nat
  | s, 0 => s
  | s, n + 1 => rFrom bl (i + 1) (rnd (kF i) (wF bl i) s) n
theorem rFrom_rnds (bl st : Nat → Nat) (i : Nat) : ∀ n, rFrom bl i (rnds bl st i) n = rnds bl st (i + n) := by
  intro n
  induction n generalizing i with
  | zero => rfl
  | succ n ih =>
    rw [rFrom]
    have := ih (i + 1)
    rw [show i + (n + 1) = i + 1 + n by omega, ← this]; rfl
theorem mod_a (h s c k w x y : Nat) : (h + s + c + k + w + x + y) % 4294967296 = add32 (add32 (add32 (add32 (add32 h s) c) k) w) (add32 x y) := by
  unfold add32; omega
theorem mod_e (d h s c k w : Nat) : (d + (h + s + c + k + w)) % 4294967296 = add32 d (add32 (add32 (add32 (add32 h s) c) k) w) := by
  unfold add32; omega
theorem mod_w (a b c d : Nat) : (a + b + c + d) % 4294967296 = add32 (add32 (add32 a b) c) d := by
  unfold add32; omega
theorem rE_cons (k : Nat) (ks : List Nat) (w0 w1 w2 w3 w4 w5 w6 w7 w8 w9 w10 w11 w12 w13 w14 w15 a b c d e f g h : Nat) : rE (k :: ks) w0 w1 w2 w3 w4 w5 w6 w7 w8 w9 w10 w11 w12 w13 w14 w15 a b c d e f g h =
    frc (Nat.add (Nat.add (Nat.add (Nat.add h (Nat.xor (Nat.xor (Nat.lor (Nat.mod (Nat.shiftLeft e 26) 4294967296) (Nat.shiftRight e 6)) (Nat.lor (Nat.mod (Nat.shiftLeft e 21) 4294967296) (Nat.shiftRight e 11))) (Nat.lor (Nat.mod (Nat.shiftLeft e 7) 4294967296) (Nat.shiftRight e 25)))) (Nat.xor (Nat.land e f) (Nat.land (Nat.sub 4294967295 e) g))) k) w0) fun t1 =>
    frc (Nat.mod (Nat.add (Nat.add t1 (Nat.xor (Nat.xor (Nat.lor (Nat.mod (Nat.shiftLeft a 30) 4294967296) (Nat.shiftRight a 2)) (Nat.lor (Nat.mod (Nat.shiftLeft a 19) 4294967296) (Nat.shiftRight a 13))) (Nat.lor (Nat.mod (Nat.shiftLeft a 10) 4294967296) (Nat.shiftRight a 22)))) (Nat.xor (Nat.xor (Nat.land a b) (Nat.land a c)) (Nat.land b c))) 4294967296) fun A =>
    frc (Nat.mod (Nat.add d t1) 4294967296) fun E =>
    frc (Nat.mod (Nat.add (Nat.add (Nat.add w0 (Nat.xor (Nat.xor (Nat.lor (Nat.mod (Nat.shiftLeft w1 25) 4294967296) (Nat.shiftRight w1 7)) (Nat.lor (Nat.mod (Nat.shiftLeft w1 14) 4294967296) (Nat.shiftRight w1 18))) (Nat.shiftRight w1 3))) w9) (Nat.xor (Nat.xor (Nat.lor (Nat.mod (Nat.shiftLeft w14 15) 4294967296) (Nat.shiftRight w14 17)) (Nat.lor (Nat.mod (Nat.shiftLeft w14 13) 4294967296) (Nat.shiftRight w14 19))) (Nat.shiftRight w14 10))) 4294967296) fun W =>
    rE ks w1 w2 w3 w4 w5 w6 w7 w8 w9 w10 w11 w12 w13 w14 w15 W A a b c E e f g := rfl
theorem rE_spec (bl : Nat → Nat) : ∀ (ks : List Nat) (i : Nat) (s : Nat → Nat) (w0 w1 w2 w3 w4 w5 w6 w7 w8 w9 w10 w11 w12 w13 w14 w15 : Nat), (∀ j k, ks[j]? = some k → kF (i + j) = k) → i + ks.length = 64 →
    (∀ j, j < 16 → i + j < 64 → [w0, w1, w2, w3, w4, w5, w6, w7, w8, w9, w10, w11, w12, w13, w14, w15].getD j 0 = wF bl (i + j)) →
    rE ks w0 w1 w2 w3 w4 w5 w6 w7 w8 w9 w10 w11 w12 w13 w14 w15 (s 0) (s 1) (s 2) (s 3) (s 4) (s 5) (s 6) (s 7) = pk8 (rFrom bl i s ks.length)
  | [], i, s, w0, w1, w2, w3, w4, w5, w6, w7, w8, w9, w10, w11, w12, w13, w14, w15, _, _, _ => rfl
  | k :: ks, i, s, w0, w1, w2, w3, w4, w5, w6, w7, w8, w9, w10, w11, w12, w13, w14, w15, hk, hl, hw => by
    have e0 : w0 = wF bl i := hw 0 (by omega) (by simp at hl; omega)
    have ek : kF i = k := hk 0 k rfl
    have hl' : i + 1 + ks.length = 64 := by simp at hl; omega
    have ih := rE_spec bl ks (i + 1) (rnd (kF i) (wF bl i) s) w1 w2 w3 w4 w5 w6 w7 w8 w9 w10 w11 w12 w13 w14 w15 ((w0 + sg0 w1 + w9 + sg1 w14) % 4294967296) (fun j k' hj => by
      have := hk (j + 1) k' (by simpa using hj)
      rw [show i + 1 + j = i + (j + 1) by omega]; exact this) hl' (fun j hj hij => by
      rcases Nat.lt_or_ge j 15 with h | h
      · have := hw (j + 1) (by omega) (by omega)
        rw [show i + (j + 1) = i + 1 + j by omega] at this
        rw [← this]
        match j, h with
        | 0, _ => rfl
        | 1, _ => rfl
        | 2, _ => rfl
        | 3, _ => rfl
        | 4, _ => rfl
        | 5, _ => rfl
        | 6, _ => rfl
        | 7, _ => rfl
        | 8, _ => rfl
        | 9, _ => rfl
        | 10, _ => rfl
        | 11, _ => rfl
        | 12, _ => rfl
        | 13, _ => rfl
        | 14, _ => rfl
      · have e15 : j = 15 := by omega
        subst e15
        have h1 : w1 = wF bl (i + 1) := hw 1 (by omega) (by omega)
        have h9 : w9 = wF bl (i + 9) := hw 9 (by omega) (by omega)
        have h14 : w14 = wF bl (i + 14) := hw 14 (by omega) (by omega)
        show (w0 + sg0 w1 + w9 + sg1 w14) % 4294967296 = wF bl (i + 1 + 15)
        rw [wF_hi bl (by omega) (by omega), mod_w, e0, h1, h9, h14]
        rw [show i + 1 + 15 - 16 = i by omega, show i + 1 + 15 - 15 = i + 1 by omega, show i + 1 + 15 - 7 = i + 9 by omega, show i + 1 + 15 - 2 = i + 14 by omega])
    have hA : (s 7 + bs1 (s 4) + chN (s 4) (s 5) (s 6) + k + w0 + bs0 (s 0) + majN (s 0) (s 1) (s 2)) % 4294967296 = rnd (kF i) (wF bl i) s 0 := by
      rw [mod_a, ek, ← e0]; rfl
    have hE : (s 3 + (s 7 + bs1 (s 4) + chN (s 4) (s 5) (s 6) + k + w0)) % 4294967296 = rnd (kF i) (wF bl i) s 4 := by
      rw [mod_e, ek, ← e0]; rfl
    have hstep : rE (k :: ks) w0 w1 w2 w3 w4 w5 w6 w7 w8 w9 w10 w11 w12 w13 w14 w15 (s 0) (s 1) (s 2) (s 3) (s 4) (s 5) (s 6) (s 7) =
        rE ks w1 w2 w3 w4 w5 w6 w7 w8 w9 w10 w11 w12 w13 w14 w15 ((w0 + sg0 w1 + w9 + sg1 w14) % 4294967296) ((s 7 + bs1 (s 4) + chN (s 4) (s 5) (s 6) + k + w0 + bs0 (s 0) + majN (s 0) (s 1) (s 2)) % 4294967296) (s 0) (s 1) (s 2) ((s 3 + (s 7 + bs1 (s 4) + chN (s 4) (s 5) (s 6) + k + w0)) % 4294967296) (s 4) (s 5) (s 6) := by
      rw [rE_cons, frc_eq, frc_eq, frc_eq, frc_eq]
      rfl
    rw [hstep, hA, hE]
    exact ih
theorem addP_eq {f g : Nat → Nat} (hf : ∀ i, f i < 4294967296) (hg : ∀ i, g i < 4294967296) : addP (pk8 f) (pk8 g) = pk8 (fun j => add32 (f j) (g j)) := by
  obtain ⟨a0, a1, a2, a3, a4, a5, a6, a7⟩ := pk8_at hf
  obtain ⟨b0, b1, b2, b3, b4, b5, b6, b7⟩ := pk8_at hg
  have u : ∀ S n, Nat.mod (Nat.shiftRight S n) 4294967296 = (S / 2 ^ n) % 4294967296 := fun S n => by
    show (S >>> n) % 4294967296 = _
    rw [Nat.shiftRight_eq_div_pow]
  unfold addP
  rw [u, u, u, u, u, u, u, u, u, u, u, u, u, u, u, u, a0, a1, a2, a3, a4, a5, a6, b0, b1, b2, b3, b4, b5, b6]
  have z0 : ∀ S, S / 2 ^ 0 = S := fun S => by rw [Nat.pow_zero, Nat.div_one]
  rw [z0, z0, a7, b7]
  rfl
theorem hdE_eq (l : List Nat) : hdE l = l.getD 0 0 := by cases l <;> rfl
theorem tlE_eq (l : List Nat) : tlE l = l.drop 1 := by cases l <;> rfl
theorem drop_getD (l : List Nat) (a b : Nat) : (l.drop a).getD b 0 = l.getD (a + b) 0 := by
  rw [List.getD_eq_getElem?_getD, List.getElem?_drop, List.getD_eq_getElem?_getD]
theorem words_hd (n : Nat) (p : List Nat) : hdE (wordsE (n + 1) p) = hiW (fun j => p.getD j 0) 0 4 := by
  show ((hdE p * 256 + hdE (tlE p)) * 256 + hdE (tlE (tlE p))) * 256 + hdE (tlE (tlE (tlE p))) = _
  rw [hdE_eq, hdE_eq, hdE_eq, hdE_eq, tlE_eq, tlE_eq, tlE_eq, List.drop_drop, List.drop_drop, drop_getD, drop_getD, drop_getD]
  simp [hiW]
theorem words_tl (n : Nat) (p : List Nat) : tlE (wordsE (n + 1) p) = wordsE n (p.drop 4) := by
  show wordsE n (tlE (tlE (tlE (tlE p)))) = _
  rw [tlE_eq, tlE_eq, tlE_eq, tlE_eq, List.drop_drop, List.drop_drop, List.drop_drop]
noncomputable def tlK (l : List Nat) : Nat → List Nat
  | 0 => l
  | i + 1 => tlE (tlK l i)
theorem tlK_words (n : Nat) (p : List Nat) : ∀ i, tlK (wordsE (n + i) p) i = wordsE n (p.drop (4 * i)) := by
  intro i
  induction i generalizing n with
  | zero => simp [tlK]
  | succ i ih =>
    rw [tlK, show n + (i + 1) = n + 1 + i by omega, ih (n + 1), words_tl, List.drop_drop]
    rfl
theorem word_at (n i : Nat) (p : List Nat) (h : i < n) : hdE (tlK (wordsE n p) i) = hiW (fun j => p.getD j 0) (4 * i) 4 := by
  obtain ⟨m, rfl⟩ : ∃ m, n = m + 1 + i := ⟨n - 1 - i, by omega⟩
  rw [tlK_words (m + 1) p i, words_hd]
  simp only [hiW, drop_getD]
theorem compE_spec (n : Nat) (p : List Nat) (st : Nat → Nat) (hst : ∀ i, st i < 4294967296) (k : List Nat → Nat → Nat) : compE (wordsE (n + 16) p) (pk8 st) k = k (wordsE n (p.drop 64)) (pk8 (comp st (fun j => p.getD j 0))) := by
  have hu : ∀ m, Nat.mod (Nat.shiftRight (pk8 st) m) 4294967296 = (pk8 st / 2 ^ m) % 4294967296 := fun m => by
    show (pk8 st >>> m) % 4294967296 = _
    rw [Nat.shiftRight_eq_div_pow]
  obtain ⟨a0, a1, a2, a3, a4, a5, a6, a7⟩ := pk8_at hst
  have hz : pk8 st / 2 ^ 0 = pk8 st := by rw [Nat.pow_zero, Nat.div_one]
  show frc (rE rndK (hdE (tlK (wordsE (n + 16) p) 0)) (hdE (tlK (wordsE (n + 16) p) 1)) (hdE (tlK (wordsE (n + 16) p) 2)) (hdE (tlK (wordsE (n + 16) p) 3)) (hdE (tlK (wordsE (n + 16) p) 4)) (hdE (tlK (wordsE (n + 16) p) 5)) (hdE (tlK (wordsE (n + 16) p) 6)) (hdE (tlK (wordsE (n + 16) p) 7)) (hdE (tlK (wordsE (n + 16) p) 8)) (hdE (tlK (wordsE (n + 16) p) 9)) (hdE (tlK (wordsE (n + 16) p) 10)) (hdE (tlK (wordsE (n + 16) p) 11)) (hdE (tlK (wordsE (n + 16) p) 12)) (hdE (tlK (wordsE (n + 16) p) 13)) (hdE (tlK (wordsE (n + 16) p) 14)) (hdE (tlK (wordsE (n + 16) p) 15)) (Nat.mod (Nat.shiftRight (pk8 st) 224) 4294967296) (Nat.mod (Nat.shiftRight (pk8 st) 192) 4294967296) (Nat.mod (Nat.shiftRight (pk8 st) 160) 4294967296) (Nat.mod (Nat.shiftRight (pk8 st) 128) 4294967296) (Nat.mod (Nat.shiftRight (pk8 st) 96) 4294967296) (Nat.mod (Nat.shiftRight (pk8 st) 64) 4294967296) (Nat.mod (Nat.shiftRight (pk8 st) 32) 4294967296) (Nat.mod (Nat.shiftRight (pk8 st) 0) 4294967296)) (fun R => frc (addP R (pk8 st)) fun T => k (tlE (tlK (wordsE (n + 16) p) 15)) T) = _
  rw [frc_eq, frc_eq]
  rw [hu, hu, hu, hu, hu, hu, hu, hu, hz, a0, a1, a2, a3, a4, a5, a6, a7]
  rw [rE_spec (fun j => p.getD j 0) rndK 0 st _ _ _ _ _ _ _ _ _ _ _ _ _ _ _ _ (fun j k hj => by
    unfold kF
    rw [Nat.zero_add, List.getD_eq_getElem?_getD, hj]; rfl) rfl (fun j hj _ => by
    rw [Nat.zero_add, wF_lo _ hj, ← word_at (n + 16) j p (by omega)]
    match j, hj with
    | 0, _ => rfl
    | 1, _ => rfl
    | 2, _ => rfl
    | 3, _ => rfl
    | 4, _ => rfl
    | 5, _ => rfl
    | 6, _ => rfl
    | 7, _ => rfl
    | 8, _ => rfl
    | 9, _ => rfl
    | 10, _ => rfl
    | 11, _ => rfl
    | 12, _ => rfl
    | 13, _ => rfl
    | 14, _ => rfl
    | 15, _ => rfl
    | j + 16, h => exact absurd h (by omega))]
  have h64 : rndK.length = 64 := rfl
  rw [h64]
  have hr : rFrom (fun j => p.getD j 0) 0 st 64 = rnds (fun j => p.getD j 0) st 64 := by
    have := rFrom_rnds (fun j => p.getD j 0) st 0 64
    rw [Nat.zero_add] at this
    exact this
  rw [hr, addP_eq (rnds_lt hst 64) hst]
  have ht : tlE (tlK (wordsE (n + 16) p) 15) = wordsE n (p.drop 64) := tlK_words n p 16
  rw [ht]
  rfl
def hashD : (Nat → Nat) → List Nat → Nat → Nat → Nat
  | st, _, 0 => st
  | st, p, n + 1 => hashD (comp st (fun j => p.getD j 0)) (p.drop 64) n
theorem hashD_eq (p : List Nat) : ∀ (n k : Nat), hashD (hashN p k) (p.drop (64 * k)) n = hashN p (k + n)
  | 0, k => rfl
  | n + 1, k => by
    rw [hashD, List.drop_drop]
    have e : comp (hashN p k) (fun j => (p.drop (64 * k)).getD j 0) = hashN p (k + 1) := by
      rw [hashN]
      congr 1
      funext j
      rw [drop_getD]; rfl
    rw [e, show 64 * k + 64 = 64 * (k + 1) by omega, hashD_eq p n (k + 1), show k + 1 + n = k + (n + 1) by omega]
theorem hashE_spec : ∀ (n : Nat) (p : List Nat) (st : Nat → Nat), (∀ i, st i < 4294967296) → hashE n (wordsE (16 * n) p) (pk8 st) = pk8 (hashD st p n)
  | 0, _, _, _ => rfl
  | n + 1, p, st, hst => by
    show compE (wordsE (16 * (n + 1)) p) (pk8 st) (hashE n) = _
    rw [show 16 * (n + 1) = 16 * n + 16 by omega, compE_spec (16 * n) p st hst, hashE_spec n _ _ (comp_lt _ _)]; rfl
theorem st0E_eq : st0E = pk8 st0 := by decide +kernel
theorem shaE_eq (l : List Nat) : shaE l = pk8 (hashP l) := by
  unfold shaE hashP
  rw [st0E_eq, hashE_spec _ _ _ st0_lt]
  have := hashD_eq (l ++ padL l.length) (nBlk l.length) 0
  rw [Nat.zero_add, Nat.mul_zero, List.drop_zero] at this
  rw [← this]; rfl
theorem byte_of (x f b : Nat) (hb : b ≤ 24) (h : x % 4294967296 = f) : (x >>> b) % 256 = (f >>> b) % 256 := by
  subst h
  rw [Nat.shiftRight_eq_div_pow, Nat.shiftRight_eq_div_pow]
  have h32 : (4294967296 : Nat) = 2 ^ b * 2 ^ (32 - b) := by
    rw [← Nat.pow_add, show b + (32 - b) = 32 by omega]
  rw [h32, Nat.mod_mul_right_div_self]
  have h8 : 2 ^ (32 - b) = 256 * 2 ^ (24 - b) := by
    rw [show (256 : Nat) = 2 ^ 8 from rfl, ← Nat.pow_add, show 8 + (24 - b) = 32 - b by omega]
  rw [h8, Nat.mod_mul_right_mod]
theorem shaE_bytes (l : List Nat) : highL (shaE l) 32 = kl (shaK l) := by
  rw [shaE_eq]
  obtain ⟨a0, a1, a2, a3, a4, a5, a6, a7⟩ := pk8_at (hashP_lt l)
  refine List.ext_getElem? fun i => ?_
  rcases Nat.lt_or_ge i 32 with h | h
  · rw [highL_get _ _ _ h, kl_get _ h]
    congr 1
    unfold shaK
    have hs : pk8 (hashP l) >>> (8 * (32 - 1 - i)) = (pk8 (hashP l) / 2 ^ (32 * (7 - i / 4))) >>> (24 - 8 * (i % 4)) := by
      rw [Nat.shiftRight_eq_div_pow, Nat.shiftRight_eq_div_pow, Nat.div_div_eq_div_mul, ← Nat.pow_add]
      congr 2
      omega
    rw [hs]
    refine byte_of _ _ _ (by omega) ?_
    have hq : i / 4 < 8 := by omega
    generalize i / 4 = q at hq
    match q, hq with
    | 0, _ => exact a0
    | 1, _ => exact a1
    | 2, _ => exact a2
    | 3, _ => exact a3
    | 4, _ => exact a4
    | 5, _ => exact a5
    | 6, _ => exact a6
    | 7, _ => rw [show 32 * (7 - 7) = 0 by omega, Nat.pow_zero, Nat.div_one]; exact a7
  · rw [List.getElem?_eq_none (by rw [highL_len]; exact h), List.getElem?_eq_none (by rw [kl_len]; exact h)]
noncomputable def derE (P5 P3 info : List Nat) : Nat := frc (shaE (P3 ++ info)) fun V => shaE (P5 ++ highL V 32)
theorem shaE_app (a b : List Nat) (V : Nat) (v : Nat → Nat) (h : highL V 32 = kl v) : highL (shaE (a ++ highL V 32)) 32 = kl (shaK (a ++ kl v)) := by rw [shaE_bytes, h]
theorem derE_spec (P5 P3 info key : List Nat) (h5 : padK key 92 = P5) (h3 : padK key 54 = P3) : highL (derE P5 P3 info) 32 = kl (macK key info) := by
  have e : derE P5 P3 info = shaE (P5 ++ highL (shaE (P3 ++ info)) 32) := frc_eq _ _
  have e2 := shaE_app P5 [] (shaE (P3 ++ info)) (shaK (P3 ++ info)) (shaE_bytes _)
  have e4 : macK key info = shaK (P5 ++ kl (shaK (P3 ++ info))) := by unfold macK; rw [h5, h3]
  rw [e4, ← e2, e]

end Go.Proofs.YtdejhenkdbjakaaDoor
