/- Plain: Fermat's little law, and that 2^255 - 19 is prime. -/
import Derived.Test.YtdmioipdmdmkhaaDoorA8
set_option linter.unusedVariables false
set_option linter.unusedSimpArgs false
namespace Go.Proofs.YtdmioipdmdmkhaaDoor

def Prm (p : Nat) : Prop := 1 < p ∧ ∀ d, d ∣ p → d = 1 ∨ d = p
theorem Prm.cop {p a : Nat} (hp : Prm p) (ha : ¬ p ∣ a) : Nat.Coprime p a := by
  rcases hp.2 _ (Nat.gcd_dvd_left p a) with h | h
  · exact h
  · exact absurd (h ▸ Nat.gcd_dvd_right p a) ha
theorem Prm.dvd_mul {p a b : Nat} (hp : Prm p) (h : p ∣ a * b) : p ∣ a ∨ p ∣ b := by
  by_cases ha : p ∣ a
  · exact Or.inl ha
  · exact Or.inr ((hp.cop ha).dvd_of_dvd_mul_left h)

/-! ### Fermat -/
def lp : List Nat → Nat
  | [] => 1
  | a :: l => a * lp l
theorem lp_perm {l m : List Nat} (h : l.Perm m) : lp l = lp m := by
  induction h with
  | nil => rfl
  | cons a _ ih => simp [lp, ih]
  | swap a b l => simp [lp, Nat.mul_left_comm]
  | trans _ _ h1 h2 => exact h1.trans h2
theorem perm_of_sub : ∀ (l m : List Nat), l.Nodup → (∀ a ∈ l, a ∈ m) → m.length ≤ l.length → l.Perm m
  | [], m, _, _, hl => by
    cases m with
    | nil => exact List.Perm.refl _
    | cons a m => simp at hl
  | a :: t, m, hn, hs, hl => by
    have ha : a ∈ m := hs a List.mem_cons_self
    have hp := List.perm_cons_erase ha
    rw [List.nodup_cons] at hn
    refine ((perm_of_sub t (m.erase a) hn.2 (fun b hb => ?_) ?_).cons a).trans hp.symm
    · have hne : b ≠ a := fun h => hn.1 (h ▸ hb)
      exact (List.mem_erase_of_ne hne).2 (hs b (List.mem_cons_of_mem _ hb))
    · rw [List.length_erase_of_mem ha]; simp at hl; omega
theorem lp_map_mod (p a : Nat) : ∀ l : List Nat, lp (l.map (fun i => a * i % p)) % p = a ^ l.length * lp l % p
  | [] => by simp [lp]
  | b :: l => by
    simp only [List.map_cons, lp, List.length_cons]
    rw [Nat.mul_mod, Nat.mod_mod, lp_map_mod p a l, ← Nat.mul_mod, Nat.pow_succ]
    congr 1
    simp only [Nat.mul_assoc, Nat.mul_left_comm, Nat.mul_comm]
theorem lp_cop {p : Nat} (hp : Prm p) : ∀ l : List Nat, (∀ b ∈ l, ¬ p ∣ b) → ¬ p ∣ lp l
  | [], _, h => by
    have := Nat.le_of_dvd (by simp [lp]) h
    simp [lp] at this
    have := hp.1
    omega
  | b :: l, hb, h => by
    rcases hp.dvd_mul (a := b) (b := lp l) h with h | h
    · exact hb b List.mem_cons_self h
    · exact lp_cop hp l (fun c hc => hb c (List.mem_cons_of_mem _ hc)) h
theorem dvd_sub_mod {p x y : Nat} (h : x % p = y % p) : p ∣ y - x := Nat.dvd_of_mod_eq_zero (Nat.sub_mod_eq_zero_of_mod_eq h.symm)
theorem mod_of_dvd_sub {p x y : Nat} (hxy : x ≤ y) (h : p ∣ y - x) : x % p = y % p := by
  obtain ⟨k, hk⟩ := h
  have e : y = x + p * k := by omega
  rw [e, Nat.add_mul_mod_self_left]
theorem mod_cancel {p a x y : Nat} (hp : Prm p) (ha : ¬ p ∣ a) (h : a * x % p = a * y % p) : x % p = y % p := by
  rcases Nat.le_total x y with hxy | hxy
  · have h1 : p ∣ a * y - a * x := dvd_sub_mod h
    rw [← Nat.mul_sub] at h1
    exact mod_of_dvd_sub hxy ((hp.cop ha).dvd_of_dvd_mul_left h1)
  · have h1 : p ∣ a * x - a * y := dvd_sub_mod h.symm
    rw [← Nat.mul_sub] at h1
    exact (mod_of_dvd_sub hxy ((hp.cop ha).dvd_of_dvd_mul_left h1)).symm
theorem fermat {p a : Nat} (hp : Prm p) (ha : ¬ p ∣ a) : a ^ (p - 1) % p = 1 := by
  have h1 := hp.1
  have mem : ∀ b, b ∈ List.range' 1 (p - 1) ↔ 1 ≤ b ∧ b < p := fun b => by rw [List.mem_range'_1]; omega
  have small : ∀ b, b ∈ List.range' 1 (p - 1) → ¬ p ∣ b := fun b hb h => by
    have := (mem b).1 hb
    have := Nat.le_of_dvd (by omega) h
    omega
  have hperm : ((List.range' 1 (p - 1)).map (fun i => a * i % p)).Perm (List.range' 1 (p - 1)) := by
    refine perm_of_sub _ _ ?_ ?_ (by simp)
    · have nd : (List.range' 1 (p - 1)).Nodup := List.nodup_range'
      refine List.pairwise_map.2 (nd.imp_of_mem ?_)
      intro x y hx hy hxy h
      have := mod_cancel hp ha h
      rw [Nat.mod_eq_of_lt ((mem x).1 hx).2, Nat.mod_eq_of_lt ((mem y).1 hy).2] at this
      exact hxy this
    · intro b hb
      obtain ⟨i, hi, rfl⟩ := List.mem_map.1 hb
      refine (mem _).2 ⟨?_, Nat.mod_lt _ (by omega)⟩
      rcases Nat.eq_zero_or_pos (a * i % p) with h | h
      · rcases hp.dvd_mul (Nat.dvd_of_mod_eq_zero h) with h | h
        · exact absurd h ha
        · exact absurd h (small i hi)
      · exact h
  have e := lp_map_mod p a (List.range' 1 (p - 1))
  rw [lp_perm hperm, List.length_range'] at e
  have e2 : lp (List.range' 1 (p - 1)) * 1 % p = lp (List.range' 1 (p - 1)) * a ^ (p - 1) % p := by rw [Nat.mul_one, e, Nat.mul_comm]
  have := mod_cancel hp (lp_cop hp _ small) e2
  rw [← this, Nat.mod_eq_of_lt h1]

/-! ### Who divides a number that passes -/
theorem one_pow_mod {p a m : Nat} (h1 : 1 < p) (h : a ^ m % p = 1) (k : Nat) : a ^ (m * k) % p = 1 := by
  rw [Nat.pow_mul, Nat.pow_mod, h, Nat.one_pow, Nat.mod_eq_of_lt h1]
theorem one_gcd {p a : Nat} (h1 : 1 < p) : ∀ m n, a ^ m % p = 1 → a ^ n % p = 1 → a ^ (Nat.gcd m n) % p = 1 := by
  intro m n
  induction m, n using Nat.gcd.induction with
  | H0 n => intro _ h; rwa [Nat.gcd_zero_left]
  | H1 m n hm ih =>
    intro hm1 hn1
    rw [Nat.gcd_rec]
    refine ih ?_ hm1
    have e := one_pow_mod h1 hm1 (n / m)
    have e2 : a ^ (m * (n / m)) * a ^ (n % m) % p = 1 := by rw [← Nat.pow_add, Nat.div_add_mod]; exact hn1
    rw [Nat.mul_mod, e, Nat.one_mul, Nat.mod_mod] at e2
    exact e2
theorem prm_pow_dvd {p a : Nat} (hp : Prm p) : ∀ n, p ∣ a ^ n → p ∣ a
  | 0, h => by
    have := Nat.le_of_dvd (by simp) h
    simp at this
    have := hp.1
    omega
  | n + 1, h => by
    rw [Nat.pow_succ] at h
    rcases hp.dvd_mul h with h | h
    · exact prm_pow_dvd hp n h
    · exact h
/-- Pocklington: a prime of n - 1 divides r - 1 for each prime r of n. -/
theorem pock {n q a r : Nat} (hn : 1 < n) (hq : Prm q) (hd : q ∣ n - 1) (h1 : a ^ (n - 1) % n = 1) (h2 : Nat.gcd (a ^ ((n - 1) / q) % n + n - 1) n = 1) (hr : Prm r) (hrn : r ∣ n) : q ∣ r - 1 := by
  have r1 := hr.1
  have h1r : a ^ (n - 1) % r = 1 := by
    have := congrArg (· % r) h1
    simp only [Nat.mod_mod_of_dvd _ hrn, Nat.mod_eq_of_lt r1] at this
    exact this
  have hra : ¬ r ∣ a := fun h => by
    have h3 : r ∣ a ^ (n - 1) := Nat.dvd_trans h (by have := Nat.pow_dvd_pow a (show 1 ≤ n - 1 by omega); rwa [Nat.pow_one] at this)
    rw [Nat.mod_eq_zero_of_dvd h3] at h1r
    omega
  have h3 := one_gcd r1 _ _ h1r (fermat hr hra)
  refine Classical.byContradiction fun hc => ?_
  have hg : Nat.gcd (n - 1) (r - 1) ∣ (n - 1) / q := by
    have hcop : Nat.Coprime (Nat.gcd (n - 1) (r - 1)) q := by
      refine (hq.cop fun h => hc (Nat.dvd_trans h (Nat.gcd_dvd_right _ _))).symm
    refine hcop.dvd_of_dvd_mul_left ?_
    rw [Nat.mul_div_cancel' hd]
    exact Nat.gcd_dvd_left _ _
  obtain ⟨k, hk⟩ := hg
  have h4 := one_pow_mod r1 h3 k
  rw [← hk] at h4
  have h5 : a ^ ((n - 1) / q) % n % r = 1 := by rw [Nat.mod_mod_of_dvd _ hrn]; exact h4
  generalize a ^ ((n - 1) / q) % n = z at h2 h5
  have hz : 1 ≤ z := by
    rcases Nat.eq_zero_or_pos z with h | h
    · rw [h] at h5; simp at h5
    · exact h
  have h6 : r ∣ z - 1 := by
    have : 1 % r = z % r := by rw [h5, Nat.mod_eq_of_lt r1]
    exact dvd_sub_mod this
  have h7 : r ∣ z + n - 1 := by
    have e : z + n - 1 = (z - 1) + n := by omega
    rw [e]
    exact Nat.dvd_add h6 hrn
  have h8 := Nat.dvd_gcd h7 hrn
  rw [h2] at h8
  have := Nat.le_of_dvd (by omega) h8
  omega
theorem prm_fac : ∀ (n : Nat), 1 < n → ∃ r, Prm r ∧ r ∣ n := by
  intro n
  induction n using Nat.strongRecOn with
  | _ n ih =>
    intro hn
    by_cases h : ∀ d, d ∣ n → d = 1 ∨ d = n
    · exact ⟨n, ⟨hn, h⟩, Nat.dvd_refl n⟩
    · simp only [Classical.not_forall, not_or] at h
      obtain ⟨d, hd, h1, h2⟩ := h
      have hle := Nat.le_of_dvd (by omega) hd
      have h0 : d ≠ 0 := fun h => by rw [h] at hd; have := Nat.eq_zero_of_zero_dvd hd; omega
      obtain ⟨r, hr, hrd⟩ := ih d (by omega) (by omega)
      exact ⟨r, hr, Nat.dvd_trans hrd hd⟩
/-- A number whose primes are all above its root is one. -/
theorem prm_of_large {n : Nat} (hn : 1 < n) (h : ∀ r, Prm r → r ∣ n → n < r * r) : Prm n := by
  refine ⟨hn, fun d hd => ?_⟩
  refine Classical.byContradiction fun hc => ?_
  rw [not_or] at hc
  obtain ⟨k, hk⟩ := hd
  have hd1 : 1 < d := by
    rcases Nat.lt_or_ge 1 d with h | h
    · exact h
    · have : d = 0 := by omega
      rw [this] at hk; omega
  have hk1 : 1 < k := by
    rcases Nat.lt_or_ge 1 k with h | h
    · exact h
    · rcases Nat.eq_zero_or_pos k with h0 | h0
      · rw [h0] at hk; omega
      · have : k = 1 := by omega
        rw [this] at hk; omega
  obtain ⟨r, hr, r1⟩ := prm_fac d hd1
  obtain ⟨s, hs, s1⟩ := prm_fac k hk1
  have hr2 := h r hr (by rw [hk]; exact Nat.dvd_trans r1 (Nat.dvd_mul_right d k))
  have hs2 := h s hs (by rw [hk]; exact Nat.dvd_trans s1 (Nat.dvd_mul_left k d))
  have l1 := Nat.le_of_dvd (by omega) r1
  have l2 := Nat.le_of_dvd (by omega) s1
  have m1 : r * s ≤ n := by rw [hk]; exact Nat.mul_le_mul l1 l2
  rcases Nat.le_total r s with hh | hh
  · have := Nat.mul_le_mul_left r hh; omega
  · have := Nat.mul_le_mul_right s hh; omega
theorem prm_two {n q q' a : Nat} (hn : 1 < n) (hq : Prm q) (hq' : Prm q') (hne : ¬ q ∣ q') (hd : q ∣ n - 1) (hd' : q' ∣ n - 1) (h1 : a ^ (n - 1) % n = 1) (h2 : Nat.gcd (a ^ ((n - 1) / q) % n + n - 1) n = 1) (h2' : Nat.gcd (a ^ ((n - 1) / q') % n + n - 1) n = 1) (hl : n < q * q' * (q * q')) : Prm n := by
  refine prm_of_large hn fun r hr hrn => ?_
  have d1 := pock hn hq hd h1 h2 hr hrn
  have d2 := pock hn hq' hd' h1 h2' hr hrn
  have d3 : q * q' ∣ r - 1 := (hq.cop hne).mul_dvd_of_dvd_of_dvd d1 d2
  have := hr.1
  have h3 := Nat.le_of_dvd (by omega) d3
  have h4 : q * q' ≤ r := by omega
  exact Nat.lt_of_lt_of_le hl (Nat.mul_le_mul h4 h4)
theorem prm_one {n q a : Nat} (hn : 1 < n) (hq : Prm q) (hd : q ∣ n - 1) (h1 : a ^ (n - 1) % n = 1) (h2 : Nat.gcd (a ^ ((n - 1) / q) % n + n - 1) n = 1) (hl : n < q * q) : Prm n := by
  refine prm_of_large hn fun r hr hrn => ?_
  have d1 := pock hn hq hd h1 h2 hr hrn
  have := hr.1
  have h3 := Nat.le_of_dvd (by omega) d1
  have h4 : q ≤ r := by omega
  exact Nat.lt_of_lt_of_le hl (Nat.mul_le_mul h4 h4)
/-- Powers, quickly. -/
def pm (n a : Nat) : Nat → Nat → Nat
  | 0, _ => 1
  | f + 1, e => if e % 2 = 1 then pm n a f (e / 2) * pm n a f (e / 2) % n * a % n else pm n a f (e / 2) * pm n a f (e / 2) % n
theorem pm_eq {n a : Nat} (hn : 1 < n) : ∀ f e, e < 2 ^ f → pm n a f e = a ^ e % n
  | 0, e, h => by
    have : e = 0 := by simp at h; exact h
    subst this
    simp [pm, Nat.mod_eq_of_lt hn]
  | f + 1, e, h => by
    have hf : e / 2 < 2 ^ f := by rw [Nat.pow_succ] at h; omega
    have e2 := Nat.div_add_mod e 2
    rw [pm, pm_eq hn f _ hf, ← Nat.mul_mod, ← Nat.pow_add]
    split
    · rename_i h1
      rw [Nat.mod_mul_mod, ← Nat.pow_succ]
      congr 2
      omega
    · congr 2
      omega
/-- No divisor up to a bound. -/
def noDiv (n : Nat) : Nat → Bool
  | 0 => true
  | k + 1 => (k + 2 == n || n % (k + 2) != 0) && noDiv n k
theorem noDiv_spec {n : Nat} : ∀ k, noDiv n k = true → ∀ d, 2 ≤ d → d ≤ k + 1 → d ∣ n → d = n
  | 0, _, d, h1, h2, _ => by omega
  | k + 1, h, d, h1, h2, hd => by
    simp only [noDiv, Bool.and_eq_true, Bool.or_eq_true, beq_iff_eq, bne_iff_ne] at h
    rcases Nat.lt_or_ge d (k + 2) with h3 | h3
    · exact noDiv_spec k h.2 d h1 (by omega) hd
    · have : d = k + 2 := by omega
      subst this
      rcases h.1 with h4 | h4
      · exact h4
      · exact absurd (Nat.mod_eq_zero_of_dvd hd) h4
theorem prm_trial {n k : Nat} (hn : 1 < n) (h : noDiv n k = true) (hl : n < (k + 2) * (k + 2)) : Prm n := by
  refine prm_of_large hn fun r hr hrn => ?_
  rcases Nat.lt_or_ge r (k + 2) with h1 | h1
  · have := noDiv_spec k h r hr.1 (by omega) hrn
    subst this
    have := hr.1
    have : 2 * r ≤ r * r := Nat.mul_le_mul_right r this
    omega
  · exact Nat.lt_of_lt_of_le hl (Nat.mul_le_mul h1 h1)
def isOne (n a f e : Nat) : Bool := pm n a f e == 1
def isCop (n a f e : Nat) : Bool := Nat.gcd (pm n a f e + n - 1) n == 1
theorem isOne_eq {n a f e : Nat} (hn : 1 < n) (hf : e < 2 ^ f) (h : isOne n a f e = true) : a ^ e % n = 1 := by
  rw [← pm_eq hn f e hf]; exact eq_of_beq h
theorem isCop_eq {n a f e : Nat} (hn : 1 < n) (hf : e < 2 ^ f) (h : isCop n a f e = true) : Nat.gcd (a ^ e % n + n - 1) n = 1 := by
  rw [← pm_eq hn f e hf]; exact eq_of_beq h

def q5 : Nat := 8574133
def q4 : Nat := 1919519569386763
def q3 : Nat := 75445702479781427272750846543864801
def q2 : Nat := 74058212732561358302231226437062788676166966415465897661863160754340907
theorem prm127 : Prm 127 := prm_trial (k := 11) (by decide) (by decide +kernel) (by decide)
theorem prm353 : Prm 353 := prm_trial (k := 18) (by decide) (by decide +kernel) (by decide)
theorem prm75707 : Prm 75707 := prm_trial (k := 300) (by decide) (by decide +kernel) (by decide)
theorem prm_q5 : Prm q5 := prm_trial (k := 2930) (by decide +kernel) (by decide +kernel) (by decide +kernel)
theorem prm_q4 : Prm q4 := prm_two (a := 2) (by decide +kernel) prm_q5 prm127 (by decide +kernel) (by decide +kernel) (by decide +kernel)
  (isOne_eq (f := 60) (by decide +kernel) (by decide +kernel) (by decide +kernel)) (isCop_eq (f := 60) (by decide +kernel) (by decide +kernel) (by decide +kernel)) (isCop_eq (f := 60) (by decide +kernel) (by decide +kernel) (by decide +kernel)) (by decide +kernel)
theorem prm_q3 : Prm q3 := prm_two (a := 2) (by decide +kernel) prm_q4 prm75707 (by decide +kernel) (by decide +kernel) (by decide +kernel)
  (isOne_eq (f := 120) (by decide +kernel) (by decide +kernel) (by decide +kernel)) (isCop_eq (f := 120) (by decide +kernel) (by decide +kernel) (by decide +kernel)) (isCop_eq (f := 120) (by decide +kernel) (by decide +kernel) (by decide +kernel)) (by decide +kernel)
theorem prm_q2 : Prm q2 := prm_two (a := 2) (by decide +kernel) prm_q3 prm353 (by decide +kernel) (by decide +kernel) (by decide +kernel)
  (isOne_eq (f := 240) (by decide +kernel) (by decide +kernel) (by decide +kernel)) (isCop_eq (f := 240) (by decide +kernel) (by decide +kernel) (by decide +kernel)) (isCop_eq (f := 240) (by decide +kernel) (by decide +kernel) (by decide +kernel)) (by decide +kernel)
theorem prm_pr : Prm pr := prm_one (a := 2) (by decide +kernel) prm_q2 (by decide +kernel)
  (isOne_eq (f := 256) (by decide +kernel) (by decide +kernel) (by decide +kernel)) (isCop_eq (f := 256) (by decide +kernel) (by decide +kernel) (by decide +kernel)) (by decide +kernel)
theorem inv_mul {x : Nat} (h : x % pr ≠ 0) : x * powP x invE % pr = 1 := by
  have h1 := fermat prm_pr (a := x) (fun h2 => h (Nat.mod_eq_zero_of_dvd h2))
  unfold powP
  rw [Nat.mul_mod_mod, Nat.mul_comm, ← Nat.pow_succ]
  exact h1
end Go.Proofs.YtdmioipdmdmkhaaDoor
