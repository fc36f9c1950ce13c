/- Points of small order: the ladder's coordinates stay within few classes. -/
import Derived.Test.YtdmioipdmdmkhaaDoorF7
set_option linter.unusedVariables false
set_option linter.unusedSimpArgs false
namespace Go.Proofs.YtdmioipdmdmkhaaDoor
open Go.RowKit
instance : NeZero pr := ⟨by decide⟩
/-- A number modulo the prime. -/
def toF (n : Nat) : Fin pr := Fin.ofNat pr n
theorem toF_mul (a b : Nat) : toF (a * b % pr) = toF a * toF b := by
  apply Fin.ext; show a * b % pr % pr = a % pr * (b % pr) % pr; rw [Nat.mod_mod, Nat.mul_mod]
theorem toF_add (a b : Nat) : toF ((a + b) % pr) = toF a + toF b := by
  apply Fin.ext; show (a + b) % pr % pr = (a % pr + b % pr) % pr; rw [Nat.mod_mod, Nat.add_mod]
theorem toF_sub (a b : Nat) (hb : b ≤ pr) : toF (subP a b) = toF a - toF b := by
  apply Fin.ext
  show (a + (pr - b)) % pr % pr = (pr - b % pr + a % pr) % pr
  rw [Nat.mod_mod]
  rcases Nat.lt_or_eq_of_le hb with h | h
  · rw [Nat.mod_eq_of_lt h, Nat.add_comm, Nat.add_mod, Nat.add_mod (pr - b) (a % pr), Nat.mod_mod]
  · subst h; rw [Nat.sub_self, Nat.mod_self, Nat.sub_zero, Nat.add_zero, Nat.add_mod_left, Nat.mod_mod]
theorem toF_inj {a b : Nat} (ha : a < pr) (hb : b < pr) (h : toF a = toF b) : a = b := by
  have := congrArg Fin.val h
  have e : a % pr = b % pr := this
  rwa [Nat.mod_eq_of_lt ha, Nat.mod_eq_of_lt hb] at e
abbrev dX (x z : Fin pr) : Fin pr := (x + z) * (x + z) * ((x - z) * (x - z))
abbrev dZ (x z : Fin pr) : Fin pr := ((x + z) * (x + z) - (x - z) * (x - z)) * ((x + z) * (x + z) + toF 121665 * ((x + z) * (x + z) - (x - z) * (x - z)))
abbrev sX (x z s t : Fin pr) : Fin pr := ((s - t) * (x + z) + (s + t) * (x - z)) * ((s - t) * (x + z) + (s + t) * (x - z))
abbrev sZ (u x z s t : Fin pr) : Fin pr := u * (((s - t) * (x + z) - (s + t) * (x - z)) * ((s - t) * (x + z) - (s + t) * (x - z)))
theorem subP_le (a b : Nat) : subP a b ≤ pr := Nat.le_of_lt (Nat.mod_lt _ pr_pos)
theorem mod_le (a : Nat) : a % pr ≤ pr := Nat.le_of_lt (Nat.mod_lt _ pr_pos)
theorem toF_dblX (m n : Nat) (hn : n ≤ pr) : toF (dblX m n) = dX (toF m) (toF n) := by
  unfold dblX; rw [toF_mul, toF_mul, toF_mul, toF_add, toF_sub _ _ hn]
theorem toF_dblZ (m n : Nat) (hn : n ≤ pr) : toF (dblZ m n) = dZ (toF m) (toF n) := by
  unfold dblZ; simp only [toF_mul, toF_add, toF_sub _ _ (mod_le _), toF_sub _ _ hn]
theorem toF_sumX (m n s t : Nat) (hn : n ≤ pr) (ht : t ≤ pr) : toF (sumX m n s t) = sX (toF m) (toF n) (toF s) (toF t) := by
  unfold sumX; simp only [toF_mul, toF_add, toF_sub _ _ hn, toF_sub _ _ ht]
theorem toF_sumZ (u m n s t : Nat) (hn : n ≤ pr) (ht : t ≤ pr) : toF (sumZ u m n s t) = sZ (toF u) (toF m) (toF n) (toF s) (toF t) := by
  unfold sumZ; simp only [toF_mul, toF_add, toF_sub _ _ hn, toF_sub _ _ ht, toF_sub _ _ (mod_le _)]
/-- (x, z) is a multiple of (X, Z). -/
def Cl (X Z x z : Nat) : Prop := Z ≤ pr ∧ z ≤ pr ∧ ∃ l : Fin pr, toF x = l * toF X ∧ toF z = l * toF Z
def R0 (S : LS) : Nat × Nat := if S.l then (S.s, S.t) else (S.a, S.b)
def R1 (S : LS) : Nat × Nat := if S.l then (S.a, S.b) else (S.s, S.t)
theorem toF_mod (n : Nat) : toF (n % pr) = toF n := by apply Fin.ext; show n % pr % pr = n % pr; rw [Nat.mod_mod]
theorem toF_subm (a b : Nat) : toF (subP a (b % pr)) = toF a - toF b := by rw [toF_sub _ _ (mod_le _), toF_mod]
theorem subP_mod (a b : Nat) (hb : b < pr) : subP a (b % pr) = subP a b := by rw [Nat.mod_eq_of_lt hb]
theorem Cl.dbl {X Z x z X' Z' : Nat} (h : Cl X Z x z) (nu : Nat) (h1 : dblX X Z = nu * X' % pr) (h2 : dblZ X Z = nu * Z' % pr) (hZ' : Z' ≤ pr) : Cl X' Z' (dblX x z) (dblZ x z) := by
  obtain ⟨hZ, hz, l, hx, hzz⟩ := h
  have e1 := congrArg toF h1
  have e2 := congrArg toF h2
  rw [toF_dblX _ _ hZ, toF_mul] at e1
  rw [toF_dblZ _ _ hZ, toF_mul] at e2
  refine ⟨hZ', mod_le _, l * l * l * l * toF nu, ?_, ?_⟩
  · rw [toF_dblX _ _ hz, hx, hzz]
    generalize toF X = x' at *
    generalize toF Z = z' at *
    have e : dX (l * x') (l * z') = l * l * l * l * dX x' z' := by unfold dX; grind
    rw [e, e1]; grind
  · rw [toF_dblZ _ _ hz, hx, hzz]
    generalize toF X = x' at *
    generalize toF Z = z' at *
    have e : dZ (l * x') (l * z') = l * l * l * l * dZ x' z' := by unfold dZ; generalize toF 121665 = k; grind
    rw [e, e2]; grind
theorem Cl.sum {u X Z x z S T s t X' Z' : Nat} (h : Cl X Z x z) (k : Cl S T s t) (nu : Nat) (h1 : sumX X Z S T = nu * X' % pr) (h2 : sumZ u X Z S T = nu * Z' % pr) (hZ' : Z' ≤ pr) : Cl X' Z' (sumX x z s t) (sumZ u x z s t) := by
  obtain ⟨hZ, hz, l, hx, hzz⟩ := h
  obtain ⟨hT, ht, m, hs, htt⟩ := k
  have e1 := congrArg toF h1
  have e2 := congrArg toF h2
  rw [toF_sumX _ _ _ _ hZ hT, toF_mul] at e1
  rw [toF_sumZ _ _ _ _ _ hZ hT, toF_mul] at e2
  refine ⟨hZ', mod_le _, l * l * m * m * toF nu, ?_, ?_⟩
  · rw [toF_sumX _ _ _ _ hz ht, hx, hzz, hs, htt]
    generalize toF X = x' at *
    generalize toF Z = z' at *
    generalize toF S = s' at *
    generalize toF T = t' at *
    have e : sX (l * x') (l * z') (m * s') (m * t') = l * l * m * m * sX x' z' s' t' := by unfold sX; grind
    rw [e, e1]; grind
  · rw [toF_sumZ _ _ _ _ _ hz ht, hx, hzz, hs, htt]
    generalize toF X = x' at *
    generalize toF Z = z' at *
    generalize toF S = s' at *
    generalize toF T = t' at *
    generalize toF u = u' at *
    have e : sZ u' (l * x') (l * z') (m * s') (m * t') = l * l * m * m * sZ u' x' z' s' t' := by unfold sZ; grind
    rw [e, e2]; grind
theorem raw_zero {c : Nat → Nat} {u : Nat} (h : Cl 1 0 (R0 (ladS c u 255)).1 (R0 (ladS c u 255)).2) : rawN c u = 0 := by
  unfold rawN
  have e1 : (ladSw (ladS c u 255).l (ladS c u 255)).a = (R0 (ladS c u 255)).1 := by unfold ladSw R0; cases (ladS c u 255).l <;> rfl
  have e2 : (ladSw (ladS c u 255).l (ladS c u 255)).b = (R0 (ladS c u 255)).2 := by unfold ladSw R0; cases (ladS c u 255).l <;> rfl
  rw [e1, e2]
  obtain ⟨_, _, l, _, h2⟩ := h
  have h0 : (R0 (ladS c u 255)).2 % pr = 0 := by
    have := congrArg Fin.val h2
    have e : (R0 (ladS c u 255)).2 % pr = (l * toF 0).val := this
    rw [e]
    show l.val * (0 % pr) % pr = 0
    rw [Nat.zero_mod, Nat.mul_zero, Nat.zero_mod]
  have hp : powP (R0 (ladS c u 255)).2 invE = 0 := by
    unfold powP
    rw [Nat.pow_mod, h0]
    have : (0 : Nat) ^ invE = 0 := Nat.zero_pow (by decide)
    rw [this, Nat.zero_mod]
  rw [hp, Nat.mul_zero, Nat.zero_mod]
/-! ### A round, by the two points in their order -/
section
variable {u n : Nat} {S : LS} {X Z Y W X' Z' : Nat}
def okD (X Z nu X' Z' : Nat) : Bool := decide (dblX X Z = nu * X' % pr) && (decide (dblZ X Z = nu * Z' % pr) && decide (Z' ≤ pr))
def okS (u X Z S T nu X' Z' : Nat) : Bool := decide (sumX X Z S T = nu * X' % pr) && (decide (sumZ u X Z S T = nu * Z' % pr) && decide (Z' ≤ pr))
theorem okD_spec (h : okD X Z n X' Z' = true) : dblX X Z = n * X' % pr ∧ dblZ X Z = n * Z' % pr ∧ Z' ≤ pr := by
  unfold okD at h
  simp only [Bool.and_eq_true, decide_eq_true_eq] at h
  exact h
theorem okS_spec (h : okS u X Z Y W n X' Z' = true) : sumX X Z Y W = n * X' % pr ∧ sumZ u X Z Y W = n * Z' % pr ∧ Z' ≤ pr := by
  unfold okS at h
  simp only [Bool.and_eq_true, decide_eq_true_eq] at h
  exact h
theorem st_dbl0 (h : Cl X Z (R0 S).1 (R0 S).2) (nu : Nat) (hk : okD X Z nu X' Z' = true) : Cl X' Z' (R0 (ladSt u false (ladSw (false != S.l) S))).1 (R0 (ladSt u false (ladSw (false != S.l) S))).2 := by
  obtain ⟨h1, h2, h3⟩ := okD_spec hk
  obtain ⟨a, b, s, t, l⟩ := S
  cases l <;> exact h.dbl nu h1 h2 h3
theorem st_dbl1 (h : Cl X Z (R1 S).1 (R1 S).2) (nu : Nat) (hk : okD X Z nu X' Z' = true) : Cl X' Z' (R1 (ladSt u true (ladSw (true != S.l) S))).1 (R1 (ladSt u true (ladSw (true != S.l) S))).2 := by
  obtain ⟨h1, h2, h3⟩ := okD_spec hk
  obtain ⟨a, b, s, t, l⟩ := S
  cases l <;> exact h.dbl nu h1 h2 h3
theorem st_add0 (h : Cl X Z (R0 S).1 (R0 S).2) (k : Cl Y W (R1 S).1 (R1 S).2) (nu : Nat) (hk : okS u X Z Y W nu X' Z' = true) : Cl X' Z' (R1 (ladSt u false (ladSw (false != S.l) S))).1 (R1 (ladSt u false (ladSw (false != S.l) S))).2 := by
  obtain ⟨h1, h2, h3⟩ := okS_spec hk
  obtain ⟨a, b, s, t, l⟩ := S
  cases l <;> exact h.sum k nu h1 h2 h3
theorem st_add1 (h : Cl X Z (R0 S).1 (R0 S).2) (k : Cl Y W (R1 S).1 (R1 S).2) (nu : Nat) (hk : okS u Y W X Z nu X' Z' = true) : Cl X' Z' (R0 (ladSt u true (ladSw (true != S.l) S))).1 (R0 (ladSt u true (ladSw (true != S.l) S))).2 := by
  obtain ⟨h1, h2, h3⟩ := okS_spec hk
  obtain ⟨a, b, s, t, l⟩ := S
  cases l <;> exact k.sum h nu h1 h2 h3
end
/-! ### u = 0 -/
def Q0_0 (S : LS) : Prop := (Cl 1 0 (R0 S).1 (R0 S).2 ∧ Cl 0 1 (R1 S).1 (R1 S).2) ∨ (Cl 1 0 (R0 S).1 (R0 S).2 ∧ Cl 1 0 (R1 S).1 (R1 S).2)
def Q0_1 (S : LS) : Prop := (Cl 1 0 (R0 S).1 (R0 S).2 ∧ Cl 1 0 (R1 S).1 (R1 S).2)
def Q0_2 (S : LS) : Prop := (Cl 1 0 (R0 S).1 (R0 S).2 ∧ Cl 1 0 (R1 S).1 (R1 S).2)
def Q0_3 (S : LS) : Prop := (Cl 1 0 (R0 S).1 (R0 S).2 ∧ Cl 1 0 (R1 S).1 (R1 S).2)
theorem q0_0 {S : LS} (h : Q0_0 S) : Q0_0 (ladSt 0 false (ladSw (false != S.l) S)) := by
  unfold Q0_0 at h
  unfold Q0_0
  rcases h with ⟨h0, h1⟩ | ⟨h0, h1⟩
  · exact Or.inr (⟨st_dbl0 h0 1 (by decide +kernel), st_add0 h0 h1 0 (by decide +kernel)⟩)
  · exact Or.inr (⟨st_dbl0 h0 1 (by decide +kernel), st_add0 h0 h1 4 (by decide +kernel)⟩)
theorem q0_1 {S : LS} (h : Q0_0 S) : Q0_0 (ladSt 0 true (ladSw (true != S.l) S)) := by
  unfold Q0_0 at h
  unfold Q0_0
  rcases h with ⟨h0, h1⟩ | ⟨h0, h1⟩
  · exact Or.inr (⟨st_add1 h0 h1 0 (by decide +kernel), st_dbl1 h1 1 (by decide +kernel)⟩)
  · exact Or.inr (⟨st_add1 h0 h1 4 (by decide +kernel), st_dbl1 h1 1 (by decide +kernel)⟩)
theorem q0_z0 {S : LS} (h : Q0_0 S) : Q0_1 (ladSt 0 false (ladSw (false != S.l) S)) := by
  unfold Q0_0 at h
  unfold Q0_1
  rcases h with ⟨h0, h1⟩ | ⟨h0, h1⟩
  · exact ⟨st_dbl0 h0 1 (by decide +kernel), st_add0 h0 h1 0 (by decide +kernel)⟩
  · exact ⟨st_dbl0 h0 1 (by decide +kernel), st_add0 h0 h1 4 (by decide +kernel)⟩
theorem q0_z1 {S : LS} (h : Q0_1 S) : Q0_2 (ladSt 0 false (ladSw (false != S.l) S)) := by
  unfold Q0_1 at h
  unfold Q0_2
  rcases h with ⟨h0, h1⟩
  · exact ⟨st_dbl0 h0 1 (by decide +kernel), st_add0 h0 h1 4 (by decide +kernel)⟩
theorem q0_z2 {S : LS} (h : Q0_2 S) : Q0_3 (ladSt 0 false (ladSw (false != S.l) S)) := by
  unfold Q0_2 at h
  unfold Q0_3
  rcases h with ⟨h0, h1⟩
  · exact ⟨st_dbl0 h0 1 (by decide +kernel), st_add0 h0 h1 4 (by decide +kernel)⟩
theorem q0_start : Q0_0 ⟨1, 0, 0, 1, false⟩ := Or.inl (⟨⟨by decide, by decide, 1, by decide +kernel, by decide +kernel⟩, ⟨by decide, by decide, 1, by decide +kernel, by decide +kernel⟩⟩)
theorem q0_all (c : Nat → Nat) : ∀ k, Q0_0 (ladS c 0 k)
  | 0 => q0_start
  | k + 1 => by
    rw [ladS]
    cases ladBit c (254 - k)
    · exact q0_0 (q0_all c k)
    · exact q0_1 (q0_all c k)
theorem small0 {c : Nat → Nat} (h0 : ladBit c 0 = false) (h1 : ladBit c 1 = false) (h2 : ladBit c 2 = false) : rawN c 0 = 0 := by
  have a := q0_all c 252
  have b : Q0_1 (ladS c 0 253) := by rw [ladS, show 254 - 252 = 2 from rfl, h2]; exact q0_z0 a
  have d : Q0_2 (ladS c 0 254) := by rw [ladS, show 254 - 253 = 1 from rfl, h1]; exact q0_z1 b
  have e : Q0_3 (ladS c 0 255) := by rw [ladS, show 254 - 254 = 0 from rfl, h0]; exact q0_z2 d
  have f : Cl 1 0 (R0 (ladS c 0 255)).1 (R0 (ladS c 0 255)).2 := by
    unfold Q0_3 at e
    rcases e with ⟨h, _⟩
    all_goals exact h
  exact raw_zero f
/-! ### u = 1 -/
def Q1_0 (S : LS) : Prop := (Cl 1 0 (R0 S).1 (R0 S).2 ∧ Cl 1 1 (R1 S).1 (R1 S).2) ∨ (Cl 1 1 (R0 S).1 (R0 S).2 ∧ Cl 0 1 (R1 S).1 (R1 S).2) ∨ (Cl 0 1 (R0 S).1 (R0 S).2 ∧ Cl 1 1 (R1 S).1 (R1 S).2) ∨ (Cl 1 1 (R0 S).1 (R0 S).2 ∧ Cl 1 0 (R1 S).1 (R1 S).2)
def Q1_1 (S : LS) : Prop := (Cl 1 0 (R0 S).1 (R0 S).2 ∧ Cl 1 1 (R1 S).1 (R1 S).2) ∨ (Cl 0 1 (R0 S).1 (R0 S).2 ∧ Cl 1 1 (R1 S).1 (R1 S).2)
def Q1_2 (S : LS) : Prop := (Cl 1 0 (R0 S).1 (R0 S).2 ∧ Cl 1 1 (R1 S).1 (R1 S).2)
def Q1_3 (S : LS) : Prop := (Cl 1 0 (R0 S).1 (R0 S).2 ∧ Cl 1 1 (R1 S).1 (R1 S).2)
theorem q1_0 {S : LS} (h : Q1_0 S) : Q1_0 (ladSt 1 false (ladSw (false != S.l) S)) := by
  unfold Q1_0 at h
  unfold Q1_0
  rcases h with ⟨h0, h1⟩ | ⟨h0, h1⟩ | ⟨h0, h1⟩ | ⟨h0, h1⟩
  · exact Or.inl (⟨st_dbl0 h0 1 (by decide +kernel), st_add0 h0 h1 4 (by decide +kernel)⟩)
  · exact Or.inr (Or.inr (Or.inl (⟨st_dbl0 h0 1946656 (by decide +kernel), st_add0 h0 h1 4 (by decide +kernel)⟩)))
  · exact Or.inl (⟨st_dbl0 h0 1 (by decide +kernel), st_add0 h0 h1 4 (by decide +kernel)⟩)
  · exact Or.inr (Or.inr (Or.inl (⟨st_dbl0 h0 1946656 (by decide +kernel), st_add0 h0 h1 4 (by decide +kernel)⟩)))
theorem q1_1 {S : LS} (h : Q1_0 S) : Q1_0 (ladSt 1 true (ladSw (true != S.l) S)) := by
  unfold Q1_0 at h
  unfold Q1_0
  rcases h with ⟨h0, h1⟩ | ⟨h0, h1⟩ | ⟨h0, h1⟩ | ⟨h0, h1⟩
  · exact Or.inr (Or.inl (⟨st_add1 h0 h1 4 (by decide +kernel), st_dbl1 h1 1946656 (by decide +kernel)⟩))
  · exact Or.inr (Or.inr (Or.inr (⟨st_add1 h0 h1 4 (by decide +kernel), st_dbl1 h1 1 (by decide +kernel)⟩)))
  · exact Or.inr (Or.inl (⟨st_add1 h0 h1 4 (by decide +kernel), st_dbl1 h1 1946656 (by decide +kernel)⟩))
  · exact Or.inr (Or.inr (Or.inr (⟨st_add1 h0 h1 4 (by decide +kernel), st_dbl1 h1 1 (by decide +kernel)⟩)))
theorem q1_z0 {S : LS} (h : Q1_0 S) : Q1_1 (ladSt 1 false (ladSw (false != S.l) S)) := by
  unfold Q1_0 at h
  unfold Q1_1
  rcases h with ⟨h0, h1⟩ | ⟨h0, h1⟩ | ⟨h0, h1⟩ | ⟨h0, h1⟩
  · exact Or.inl (⟨st_dbl0 h0 1 (by decide +kernel), st_add0 h0 h1 4 (by decide +kernel)⟩)
  · exact Or.inr (⟨st_dbl0 h0 1946656 (by decide +kernel), st_add0 h0 h1 4 (by decide +kernel)⟩)
  · exact Or.inl (⟨st_dbl0 h0 1 (by decide +kernel), st_add0 h0 h1 4 (by decide +kernel)⟩)
  · exact Or.inr (⟨st_dbl0 h0 1946656 (by decide +kernel), st_add0 h0 h1 4 (by decide +kernel)⟩)
theorem q1_z1 {S : LS} (h : Q1_1 S) : Q1_2 (ladSt 1 false (ladSw (false != S.l) S)) := by
  unfold Q1_1 at h
  unfold Q1_2
  rcases h with ⟨h0, h1⟩ | ⟨h0, h1⟩
  · exact ⟨st_dbl0 h0 1 (by decide +kernel), st_add0 h0 h1 4 (by decide +kernel)⟩
  · exact ⟨st_dbl0 h0 1 (by decide +kernel), st_add0 h0 h1 4 (by decide +kernel)⟩
theorem q1_z2 {S : LS} (h : Q1_2 S) : Q1_3 (ladSt 1 false (ladSw (false != S.l) S)) := by
  unfold Q1_2 at h
  unfold Q1_3
  rcases h with ⟨h0, h1⟩
  · exact ⟨st_dbl0 h0 1 (by decide +kernel), st_add0 h0 h1 4 (by decide +kernel)⟩
theorem q1_start : Q1_0 ⟨1, 0, 1, 1, false⟩ := Or.inl (⟨⟨by decide, by decide, 1, by decide +kernel, by decide +kernel⟩, ⟨by decide, by decide, 1, by decide +kernel, by decide +kernel⟩⟩)
theorem q1_all (c : Nat → Nat) : ∀ k, Q1_0 (ladS c 1 k)
  | 0 => q1_start
  | k + 1 => by
    rw [ladS]
    cases ladBit c (254 - k)
    · exact q1_0 (q1_all c k)
    · exact q1_1 (q1_all c k)
theorem small1 {c : Nat → Nat} (h0 : ladBit c 0 = false) (h1 : ladBit c 1 = false) (h2 : ladBit c 2 = false) : rawN c 1 = 0 := by
  have a := q1_all c 252
  have b : Q1_1 (ladS c 1 253) := by rw [ladS, show 254 - 252 = 2 from rfl, h2]; exact q1_z0 a
  have d : Q1_2 (ladS c 1 254) := by rw [ladS, show 254 - 253 = 1 from rfl, h1]; exact q1_z1 b
  have e : Q1_3 (ladS c 1 255) := by rw [ladS, show 254 - 254 = 0 from rfl, h0]; exact q1_z2 d
  have f : Cl 1 0 (R0 (ladS c 1 255)).1 (R0 (ladS c 1 255)).2 := by
    unfold Q1_3 at e
    rcases e with ⟨h, _⟩
    all_goals exact h
  exact raw_zero f
/-! ### u = p - 1 -/
def Q2_0 (S : LS) : Prop := (Cl 1 0 (R0 S).1 (R0 S).2 ∧ Cl 57896044618658097711785492504343953926634992332820282019728792003956564819948 1 (R1 S).1 (R1 S).2) ∨ (Cl 57896044618658097711785492504343953926634992332820282019728792003956564819948 1 (R0 S).1 (R0 S).2 ∧ Cl 0 1 (R1 S).1 (R1 S).2) ∨ (Cl 0 1 (R0 S).1 (R0 S).2 ∧ Cl 57896044618658097711785492504343953926634992332820282019728792003956564819948 1 (R1 S).1 (R1 S).2) ∨ (Cl 57896044618658097711785492504343953926634992332820282019728792003956564819948 1 (R0 S).1 (R0 S).2 ∧ Cl 1 0 (R1 S).1 (R1 S).2)
def Q2_1 (S : LS) : Prop := (Cl 1 0 (R0 S).1 (R0 S).2 ∧ Cl 57896044618658097711785492504343953926634992332820282019728792003956564819948 1 (R1 S).1 (R1 S).2) ∨ (Cl 0 1 (R0 S).1 (R0 S).2 ∧ Cl 57896044618658097711785492504343953926634992332820282019728792003956564819948 1 (R1 S).1 (R1 S).2)
def Q2_2 (S : LS) : Prop := (Cl 1 0 (R0 S).1 (R0 S).2 ∧ Cl 57896044618658097711785492504343953926634992332820282019728792003956564819948 1 (R1 S).1 (R1 S).2)
def Q2_3 (S : LS) : Prop := (Cl 1 0 (R0 S).1 (R0 S).2 ∧ Cl 57896044618658097711785492504343953926634992332820282019728792003956564819948 1 (R1 S).1 (R1 S).2)
theorem q2_0 {S : LS} (h : Q2_0 S) : Q2_0 (ladSt 57896044618658097711785492504343953926634992332820282019728792003956564819948 false (ladSw (false != S.l) S)) := by
  unfold Q2_0 at h
  unfold Q2_0
  rcases h with ⟨h0, h1⟩ | ⟨h0, h1⟩ | ⟨h0, h1⟩ | ⟨h0, h1⟩
  · exact Or.inl (⟨st_dbl0 h0 1 (by decide +kernel), st_add0 h0 h1 57896044618658097711785492504343953926634992332820282019728792003956564819945 (by decide +kernel)⟩)
  · exact Or.inr (Or.inr (Or.inl (⟨st_dbl0 h0 1946640 (by decide +kernel), st_add0 h0 h1 57896044618658097711785492504343953926634992332820282019728792003956564819945 (by decide +kernel)⟩)))
  · exact Or.inl (⟨st_dbl0 h0 1 (by decide +kernel), st_add0 h0 h1 57896044618658097711785492504343953926634992332820282019728792003956564819945 (by decide +kernel)⟩)
  · exact Or.inr (Or.inr (Or.inl (⟨st_dbl0 h0 1946640 (by decide +kernel), st_add0 h0 h1 57896044618658097711785492504343953926634992332820282019728792003956564819945 (by decide +kernel)⟩)))
theorem q2_1 {S : LS} (h : Q2_0 S) : Q2_0 (ladSt 57896044618658097711785492504343953926634992332820282019728792003956564819948 true (ladSw (true != S.l) S)) := by
  unfold Q2_0 at h
  unfold Q2_0
  rcases h with ⟨h0, h1⟩ | ⟨h0, h1⟩ | ⟨h0, h1⟩ | ⟨h0, h1⟩
  · exact Or.inr (Or.inl (⟨st_add1 h0 h1 57896044618658097711785492504343953926634992332820282019728792003956564819945 (by decide +kernel), st_dbl1 h1 1946640 (by decide +kernel)⟩))
  · exact Or.inr (Or.inr (Or.inr (⟨st_add1 h0 h1 57896044618658097711785492504343953926634992332820282019728792003956564819945 (by decide +kernel), st_dbl1 h1 1 (by decide +kernel)⟩)))
  · exact Or.inr (Or.inl (⟨st_add1 h0 h1 57896044618658097711785492504343953926634992332820282019728792003956564819945 (by decide +kernel), st_dbl1 h1 1946640 (by decide +kernel)⟩))
  · exact Or.inr (Or.inr (Or.inr (⟨st_add1 h0 h1 57896044618658097711785492504343953926634992332820282019728792003956564819945 (by decide +kernel), st_dbl1 h1 1 (by decide +kernel)⟩)))
theorem q2_z0 {S : LS} (h : Q2_0 S) : Q2_1 (ladSt 57896044618658097711785492504343953926634992332820282019728792003956564819948 false (ladSw (false != S.l) S)) := by
  unfold Q2_0 at h
  unfold Q2_1
  rcases h with ⟨h0, h1⟩ | ⟨h0, h1⟩ | ⟨h0, h1⟩ | ⟨h0, h1⟩
  · exact Or.inl (⟨st_dbl0 h0 1 (by decide +kernel), st_add0 h0 h1 57896044618658097711785492504343953926634992332820282019728792003956564819945 (by decide +kernel)⟩)
  · exact Or.inr (⟨st_dbl0 h0 1946640 (by decide +kernel), st_add0 h0 h1 57896044618658097711785492504343953926634992332820282019728792003956564819945 (by decide +kernel)⟩)
  · exact Or.inl (⟨st_dbl0 h0 1 (by decide +kernel), st_add0 h0 h1 57896044618658097711785492504343953926634992332820282019728792003956564819945 (by decide +kernel)⟩)
  · exact Or.inr (⟨st_dbl0 h0 1946640 (by decide +kernel), st_add0 h0 h1 57896044618658097711785492504343953926634992332820282019728792003956564819945 (by decide +kernel)⟩)
theorem q2_z1 {S : LS} (h : Q2_1 S) : Q2_2 (ladSt 57896044618658097711785492504343953926634992332820282019728792003956564819948 false (ladSw (false != S.l) S)) := by
  unfold Q2_1 at h
  unfold Q2_2
  rcases h with ⟨h0, h1⟩ | ⟨h0, h1⟩
  · exact ⟨st_dbl0 h0 1 (by decide +kernel), st_add0 h0 h1 57896044618658097711785492504343953926634992332820282019728792003956564819945 (by decide +kernel)⟩
  · exact ⟨st_dbl0 h0 1 (by decide +kernel), st_add0 h0 h1 57896044618658097711785492504343953926634992332820282019728792003956564819945 (by decide +kernel)⟩
theorem q2_z2 {S : LS} (h : Q2_2 S) : Q2_3 (ladSt 57896044618658097711785492504343953926634992332820282019728792003956564819948 false (ladSw (false != S.l) S)) := by
  unfold Q2_2 at h
  unfold Q2_3
  rcases h with ⟨h0, h1⟩
  · exact ⟨st_dbl0 h0 1 (by decide +kernel), st_add0 h0 h1 57896044618658097711785492504343953926634992332820282019728792003956564819945 (by decide +kernel)⟩
theorem q2_start : Q2_0 ⟨1, 0, 57896044618658097711785492504343953926634992332820282019728792003956564819948, 1, false⟩ := Or.inl (⟨⟨by decide, by decide, 1, by decide +kernel, by decide +kernel⟩, ⟨by decide, by decide, 1, by decide +kernel, by decide +kernel⟩⟩)
theorem q2_all (c : Nat → Nat) : ∀ k, Q2_0 (ladS c 57896044618658097711785492504343953926634992332820282019728792003956564819948 k)
  | 0 => q2_start
  | k + 1 => by
    rw [ladS]
    cases ladBit c (254 - k)
    · exact q2_0 (q2_all c k)
    · exact q2_1 (q2_all c k)
theorem small2 {c : Nat → Nat} (h0 : ladBit c 0 = false) (h1 : ladBit c 1 = false) (h2 : ladBit c 2 = false) : rawN c 57896044618658097711785492504343953926634992332820282019728792003956564819948 = 0 := by
  have a := q2_all c 252
  have b : Q2_1 (ladS c 57896044618658097711785492504343953926634992332820282019728792003956564819948 253) := by rw [ladS, show 254 - 252 = 2 from rfl, h2]; exact q2_z0 a
  have d : Q2_2 (ladS c 57896044618658097711785492504343953926634992332820282019728792003956564819948 254) := by rw [ladS, show 254 - 253 = 1 from rfl, h1]; exact q2_z1 b
  have e : Q2_3 (ladS c 57896044618658097711785492504343953926634992332820282019728792003956564819948 255) := by rw [ladS, show 254 - 254 = 0 from rfl, h0]; exact q2_z2 d
  have f : Cl 1 0 (R0 (ladS c 57896044618658097711785492504343953926634992332820282019728792003956564819948 255)).1 (R0 (ladS c 57896044618658097711785492504343953926634992332820282019728792003956564819948 255)).2 := by
    unfold Q2_3 at e
    rcases e with ⟨h, _⟩
    all_goals exact h
  exact raw_zero f
/-! ### u = of order eight -/
def Q3_0 (S : LS) : Prop := (Cl 1 0 (R0 S).1 (R0 S).2 ∧ Cl 325606250916557431795983626356110631294008115727848805560023387167927233504 1 (R1 S).1 (R1 S).2) ∨ (Cl 325606250916557431795983626356110631294008115727848805560023387167927233504 1 (R0 S).1 (R0 S).2 ∧ Cl 1 1 (R1 S).1 (R1 S).2) ∨ (Cl 1 1 (R0 S).1 (R0 S).2 ∧ Cl 39382357235489614581723060781553021112529911719440698176882885853963445705823 1 (R1 S).1 (R1 S).2) ∨ (Cl 39382357235489614581723060781553021112529911719440698176882885853963445705823 1 (R0 S).1 (R0 S).2 ∧ Cl 0 1 (R1 S).1 (R1 S).2) ∨ (Cl 0 1 (R0 S).1 (R0 S).2 ∧ Cl 39382357235489614581723060781553021112529911719440698176882885853963445705823 1 (R1 S).1 (R1 S).2) ∨ (Cl 39382357235489614581723060781553021112529911719440698176882885853963445705823 1 (R0 S).1 (R0 S).2 ∧ Cl 1 1 (R1 S).1 (R1 S).2) ∨ (Cl 1 1 (R0 S).1 (R0 S).2 ∧ Cl 325606250916557431795983626356110631294008115727848805560023387167927233504 1 (R1 S).1 (R1 S).2) ∨ (Cl 325606250916557431795983626356110631294008115727848805560023387167927233504 1 (R0 S).1 (R0 S).2 ∧ Cl 1 0 (R1 S).1 (R1 S).2)
def Q3_1 (S : LS) : Prop := (Cl 1 0 (R0 S).1 (R0 S).2 ∧ Cl 325606250916557431795983626356110631294008115727848805560023387167927233504 1 (R1 S).1 (R1 S).2) ∨ (Cl 1 1 (R0 S).1 (R0 S).2 ∧ Cl 39382357235489614581723060781553021112529911719440698176882885853963445705823 1 (R1 S).1 (R1 S).2) ∨ (Cl 0 1 (R0 S).1 (R0 S).2 ∧ Cl 39382357235489614581723060781553021112529911719440698176882885853963445705823 1 (R1 S).1 (R1 S).2) ∨ (Cl 1 1 (R0 S).1 (R0 S).2 ∧ Cl 325606250916557431795983626356110631294008115727848805560023387167927233504 1 (R1 S).1 (R1 S).2)
def Q3_2 (S : LS) : Prop := (Cl 1 0 (R0 S).1 (R0 S).2 ∧ Cl 325606250916557431795983626356110631294008115727848805560023387167927233504 1 (R1 S).1 (R1 S).2) ∨ (Cl 0 1 (R0 S).1 (R0 S).2 ∧ Cl 39382357235489614581723060781553021112529911719440698176882885853963445705823 1 (R1 S).1 (R1 S).2)
def Q3_3 (S : LS) : Prop := (Cl 1 0 (R0 S).1 (R0 S).2 ∧ Cl 325606250916557431795983626356110631294008115727848805560023387167927233504 1 (R1 S).1 (R1 S).2)
theorem q3_0 {S : LS} (h : Q3_0 S) : Q3_0 (ladSt 325606250916557431795983626356110631294008115727848805560023387167927233504 false (ladSw (false != S.l) S)) := by
  unfold Q3_0 at h
  unfold Q3_0
  rcases h with ⟨h0, h1⟩ | ⟨h0, h1⟩ | ⟨h0, h1⟩ | ⟨h0, h1⟩ | ⟨h0, h1⟩ | ⟨h0, h1⟩ | ⟨h0, h1⟩ | ⟨h0, h1⟩
  · exact Or.inl (⟨st_dbl0 h0 1 (by decide +kernel), st_add0 h0 h1 1302425003666229727183934505424442525176032462911395222240093548671708934016 (by decide +kernel)⟩)
  · exact Or.inr (Or.inr (Or.inl (⟨st_dbl0 h0 45396917006225111810827341870339786373668205820213556558545403612143054885807 (by decide +kernel), st_add0 h0 h1 48761077026508114957042383884231568914342515009330145294212738689583669055707 (by decide +kernel)⟩)))
  · exact Or.inr (Or.inr (Or.inr (Or.inr (Or.inl (⟨st_dbl0 h0 1946656 (by decide +kernel), st_add0 h0 h1 43039764708308492630505192622948619122025694675033623890314052956612362117402 (by decide +kernel)⟩)))))
  · exact Or.inr (Or.inr (Or.inr (Or.inr (Or.inr (Or.inr (Or.inl (⟨st_dbl0 h0 24871845842723059791009793099485790699430777617945840999563689295137248234743 (by decide +kernel), st_add0 h0 h1 41737339704642262903321258117524176596849662212122228668073959407940653183394 (by decide +kernel)⟩)))))))
  · exact Or.inl (⟨st_dbl0 h0 1 (by decide +kernel), st_add0 h0 h1 41737339704642262903321258117524176596849662212122228668073959407940653183394 (by decide +kernel)⟩)
  · exact Or.inr (Or.inr (Or.inl (⟨st_dbl0 h0 24871845842723059791009793099485790699430777617945840999563689295137248234743 (by decide +kernel), st_add0 h0 h1 43039764708308492630505192622948619122025694675033623890314052956612362117402 (by decide +kernel)⟩)))
  · exact Or.inr (Or.inr (Or.inr (Or.inr (Or.inl (⟨st_dbl0 h0 1946656 (by decide +kernel), st_add0 h0 h1 48761077026508114957042383884231568914342515009330145294212738689583669055707 (by decide +kernel)⟩)))))
  · exact Or.inr (Or.inr (Or.inr (Or.inr (Or.inr (Or.inr (Or.inl (⟨st_dbl0 h0 45396917006225111810827341870339786373668205820213556558545403612143054885807 (by decide +kernel), st_add0 h0 h1 1302425003666229727183934505424442525176032462911395222240093548671708934016 (by decide +kernel)⟩)))))))
theorem q3_1 {S : LS} (h : Q3_0 S) : Q3_0 (ladSt 325606250916557431795983626356110631294008115727848805560023387167927233504 true (ladSw (true != S.l) S)) := by
  unfold Q3_0 at h
  unfold Q3_0
  rcases h with ⟨h0, h1⟩ | ⟨h0, h1⟩ | ⟨h0, h1⟩ | ⟨h0, h1⟩ | ⟨h0, h1⟩ | ⟨h0, h1⟩ | ⟨h0, h1⟩ | ⟨h0, h1⟩
  · exact Or.inr (Or.inl (⟨st_add1 h0 h1 1302425003666229727183934505424442525176032462911395222240093548671708934016 (by decide +kernel), st_dbl1 h1 45396917006225111810827341870339786373668205820213556558545403612143054885807 (by decide +kernel)⟩))
  · exact Or.inr (Or.inr (Or.inr (Or.inl (⟨st_add1 h0 h1 48761077026508114957042383884231568914342515009330145294212738689583669055707 (by decide +kernel), st_dbl1 h1 1946656 (by decide +kernel)⟩))))
  · exact Or.inr (Or.inr (Or.inr (Or.inr (Or.inr (Or.inl (⟨st_add1 h0 h1 43039764708308492630505192622948619122025694675033623890314052956612362117402 (by decide +kernel), st_dbl1 h1 24871845842723059791009793099485790699430777617945840999563689295137248234743 (by decide +kernel)⟩))))))
  · exact Or.inr (Or.inr (Or.inr (Or.inr (Or.inr (Or.inr (Or.inr (⟨st_add1 h0 h1 41737339704642262903321258117524176596849662212122228668073959407940653183394 (by decide +kernel), st_dbl1 h1 1 (by decide +kernel)⟩)))))))
  · exact Or.inr (Or.inl (⟨st_add1 h0 h1 41737339704642262903321258117524176596849662212122228668073959407940653183394 (by decide +kernel), st_dbl1 h1 24871845842723059791009793099485790699430777617945840999563689295137248234743 (by decide +kernel)⟩))
  · exact Or.inr (Or.inr (Or.inr (Or.inl (⟨st_add1 h0 h1 43039764708308492630505192622948619122025694675033623890314052956612362117402 (by decide +kernel), st_dbl1 h1 1946656 (by decide +kernel)⟩))))
  · exact Or.inr (Or.inr (Or.inr (Or.inr (Or.inr (Or.inl (⟨st_add1 h0 h1 48761077026508114957042383884231568914342515009330145294212738689583669055707 (by decide +kernel), st_dbl1 h1 45396917006225111810827341870339786373668205820213556558545403612143054885807 (by decide +kernel)⟩))))))
  · exact Or.inr (Or.inr (Or.inr (Or.inr (Or.inr (Or.inr (Or.inr (⟨st_add1 h0 h1 1302425003666229727183934505424442525176032462911395222240093548671708934016 (by decide +kernel), st_dbl1 h1 1 (by decide +kernel)⟩)))))))
theorem q3_z0 {S : LS} (h : Q3_0 S) : Q3_1 (ladSt 325606250916557431795983626356110631294008115727848805560023387167927233504 false (ladSw (false != S.l) S)) := by
  unfold Q3_0 at h
  unfold Q3_1
  rcases h with ⟨h0, h1⟩ | ⟨h0, h1⟩ | ⟨h0, h1⟩ | ⟨h0, h1⟩ | ⟨h0, h1⟩ | ⟨h0, h1⟩ | ⟨h0, h1⟩ | ⟨h0, h1⟩
  · exact Or.inl (⟨st_dbl0 h0 1 (by decide +kernel), st_add0 h0 h1 1302425003666229727183934505424442525176032462911395222240093548671708934016 (by decide +kernel)⟩)
  · exact Or.inr (Or.inl (⟨st_dbl0 h0 45396917006225111810827341870339786373668205820213556558545403612143054885807 (by decide +kernel), st_add0 h0 h1 48761077026508114957042383884231568914342515009330145294212738689583669055707 (by decide +kernel)⟩))
  · exact Or.inr (Or.inr (Or.inl (⟨st_dbl0 h0 1946656 (by decide +kernel), st_add0 h0 h1 43039764708308492630505192622948619122025694675033623890314052956612362117402 (by decide +kernel)⟩)))
  · exact Or.inr (Or.inr (Or.inr (⟨st_dbl0 h0 24871845842723059791009793099485790699430777617945840999563689295137248234743 (by decide +kernel), st_add0 h0 h1 41737339704642262903321258117524176596849662212122228668073959407940653183394 (by decide +kernel)⟩)))
  · exact Or.inl (⟨st_dbl0 h0 1 (by decide +kernel), st_add0 h0 h1 41737339704642262903321258117524176596849662212122228668073959407940653183394 (by decide +kernel)⟩)
  · exact Or.inr (Or.inl (⟨st_dbl0 h0 24871845842723059791009793099485790699430777617945840999563689295137248234743 (by decide +kernel), st_add0 h0 h1 43039764708308492630505192622948619122025694675033623890314052956612362117402 (by decide +kernel)⟩))
  · exact Or.inr (Or.inr (Or.inl (⟨st_dbl0 h0 1946656 (by decide +kernel), st_add0 h0 h1 48761077026508114957042383884231568914342515009330145294212738689583669055707 (by decide +kernel)⟩)))
  · exact Or.inr (Or.inr (Or.inr (⟨st_dbl0 h0 45396917006225111810827341870339786373668205820213556558545403612143054885807 (by decide +kernel), st_add0 h0 h1 1302425003666229727183934505424442525176032462911395222240093548671708934016 (by decide +kernel)⟩)))
theorem q3_z1 {S : LS} (h : Q3_1 S) : Q3_2 (ladSt 325606250916557431795983626356110631294008115727848805560023387167927233504 false (ladSw (false != S.l) S)) := by
  unfold Q3_1 at h
  unfold Q3_2
  rcases h with ⟨h0, h1⟩ | ⟨h0, h1⟩ | ⟨h0, h1⟩ | ⟨h0, h1⟩
  · exact Or.inl (⟨st_dbl0 h0 1 (by decide +kernel), st_add0 h0 h1 1302425003666229727183934505424442525176032462911395222240093548671708934016 (by decide +kernel)⟩)
  · exact Or.inr (⟨st_dbl0 h0 1946656 (by decide +kernel), st_add0 h0 h1 43039764708308492630505192622948619122025694675033623890314052956612362117402 (by decide +kernel)⟩)
  · exact Or.inl (⟨st_dbl0 h0 1 (by decide +kernel), st_add0 h0 h1 41737339704642262903321258117524176596849662212122228668073959407940653183394 (by decide +kernel)⟩)
  · exact Or.inr (⟨st_dbl0 h0 1946656 (by decide +kernel), st_add0 h0 h1 48761077026508114957042383884231568914342515009330145294212738689583669055707 (by decide +kernel)⟩)
theorem q3_z2 {S : LS} (h : Q3_2 S) : Q3_3 (ladSt 325606250916557431795983626356110631294008115727848805560023387167927233504 false (ladSw (false != S.l) S)) := by
  unfold Q3_2 at h
  unfold Q3_3
  rcases h with ⟨h0, h1⟩ | ⟨h0, h1⟩
  · exact ⟨st_dbl0 h0 1 (by decide +kernel), st_add0 h0 h1 1302425003666229727183934505424442525176032462911395222240093548671708934016 (by decide +kernel)⟩
  · exact ⟨st_dbl0 h0 1 (by decide +kernel), st_add0 h0 h1 41737339704642262903321258117524176596849662212122228668073959407940653183394 (by decide +kernel)⟩
theorem q3_start : Q3_0 ⟨1, 0, 325606250916557431795983626356110631294008115727848805560023387167927233504, 1, false⟩ := Or.inl (⟨⟨by decide, by decide, 1, by decide +kernel, by decide +kernel⟩, ⟨by decide, by decide, 1, by decide +kernel, by decide +kernel⟩⟩)
theorem q3_all (c : Nat → Nat) : ∀ k, Q3_0 (ladS c 325606250916557431795983626356110631294008115727848805560023387167927233504 k)
  | 0 => q3_start
  | k + 1 => by
    rw [ladS]
    cases ladBit c (254 - k)
    · exact q3_0 (q3_all c k)
    · exact q3_1 (q3_all c k)
theorem small3 {c : Nat → Nat} (h0 : ladBit c 0 = false) (h1 : ladBit c 1 = false) (h2 : ladBit c 2 = false) : rawN c 325606250916557431795983626356110631294008115727848805560023387167927233504 = 0 := by
  have a := q3_all c 252
  have b : Q3_1 (ladS c 325606250916557431795983626356110631294008115727848805560023387167927233504 253) := by rw [ladS, show 254 - 252 = 2 from rfl, h2]; exact q3_z0 a
  have d : Q3_2 (ladS c 325606250916557431795983626356110631294008115727848805560023387167927233504 254) := by rw [ladS, show 254 - 253 = 1 from rfl, h1]; exact q3_z1 b
  have e : Q3_3 (ladS c 325606250916557431795983626356110631294008115727848805560023387167927233504 255) := by rw [ladS, show 254 - 254 = 0 from rfl, h0]; exact q3_z2 d
  have f : Cl 1 0 (R0 (ladS c 325606250916557431795983626356110631294008115727848805560023387167927233504 255)).1 (R0 (ladS c 325606250916557431795983626356110631294008115727848805560023387167927233504 255)).2 := by
    unfold Q3_3 at e
    rcases e with ⟨h, _⟩
    all_goals exact h
  exact raw_zero f
/-! ### u = of order eight -/
def Q4_0 (S : LS) : Prop := (Cl 1 0 (R0 S).1 (R0 S).2 ∧ Cl 39382357235489614581723060781553021112529911719440698176882885853963445705823 1 (R1 S).1 (R1 S).2) ∨ (Cl 39382357235489614581723060781553021112529911719440698176882885853963445705823 1 (R0 S).1 (R0 S).2 ∧ Cl 1 1 (R1 S).1 (R1 S).2) ∨ (Cl 1 1 (R0 S).1 (R0 S).2 ∧ Cl 325606250916557431795983626356110631294008115727848805560023387167927233504 1 (R1 S).1 (R1 S).2) ∨ (Cl 325606250916557431795983626356110631294008115727848805560023387167927233504 1 (R0 S).1 (R0 S).2 ∧ Cl 0 1 (R1 S).1 (R1 S).2) ∨ (Cl 0 1 (R0 S).1 (R0 S).2 ∧ Cl 325606250916557431795983626356110631294008115727848805560023387167927233504 1 (R1 S).1 (R1 S).2) ∨ (Cl 325606250916557431795983626356110631294008115727848805560023387167927233504 1 (R0 S).1 (R0 S).2 ∧ Cl 1 1 (R1 S).1 (R1 S).2) ∨ (Cl 1 1 (R0 S).1 (R0 S).2 ∧ Cl 39382357235489614581723060781553021112529911719440698176882885853963445705823 1 (R1 S).1 (R1 S).2) ∨ (Cl 39382357235489614581723060781553021112529911719440698176882885853963445705823 1 (R0 S).1 (R0 S).2 ∧ Cl 1 0 (R1 S).1 (R1 S).2)
def Q4_1 (S : LS) : Prop := (Cl 1 0 (R0 S).1 (R0 S).2 ∧ Cl 39382357235489614581723060781553021112529911719440698176882885853963445705823 1 (R1 S).1 (R1 S).2) ∨ (Cl 1 1 (R0 S).1 (R0 S).2 ∧ Cl 325606250916557431795983626356110631294008115727848805560023387167927233504 1 (R1 S).1 (R1 S).2) ∨ (Cl 0 1 (R0 S).1 (R0 S).2 ∧ Cl 325606250916557431795983626356110631294008115727848805560023387167927233504 1 (R1 S).1 (R1 S).2) ∨ (Cl 1 1 (R0 S).1 (R0 S).2 ∧ Cl 39382357235489614581723060781553021112529911719440698176882885853963445705823 1 (R1 S).1 (R1 S).2)
def Q4_2 (S : LS) : Prop := (Cl 1 0 (R0 S).1 (R0 S).2 ∧ Cl 39382357235489614581723060781553021112529911719440698176882885853963445705823 1 (R1 S).1 (R1 S).2) ∨ (Cl 0 1 (R0 S).1 (R0 S).2 ∧ Cl 325606250916557431795983626356110631294008115727848805560023387167927233504 1 (R1 S).1 (R1 S).2)
def Q4_3 (S : LS) : Prop := (Cl 1 0 (R0 S).1 (R0 S).2 ∧ Cl 39382357235489614581723060781553021112529911719440698176882885853963445705823 1 (R1 S).1 (R1 S).2)
theorem q4_0 {S : LS} (h : Q4_0 S) : Q4_0 (ladSt 39382357235489614581723060781553021112529911719440698176882885853963445705823 false (ladSw (false != S.l) S)) := by
  unfold Q4_0 at h
  unfold Q4_0
  rcases h with ⟨h0, h1⟩ | ⟨h0, h1⟩ | ⟨h0, h1⟩ | ⟨h0, h1⟩ | ⟨h0, h1⟩ | ⟨h0, h1⟩ | ⟨h0, h1⟩ | ⟨h0, h1⟩
  · exact Or.inl (⟨st_dbl0 h0 1 (by decide +kernel), st_add0 h0 h1 41737339704642262903321258117524176596849662212122228668073959407940653183394 (by decide +kernel)⟩)
  · exact Or.inr (Or.inr (Or.inl (⟨st_dbl0 h0 24871845842723059791009793099485790699430777617945840999563689295137248234743 (by decide +kernel), st_add0 h0 h1 29413069106274463474381376223629838744232671384783177375155860718774123457394 (by decide +kernel)⟩)))
  · exact Or.inr (Or.inr (Or.inr (Or.inr (Or.inl (⟨st_dbl0 h0 1946656 (by decide +kernel), st_add0 h0 h1 43039764708308492630505192622948619122025694675033623890314052956612362117402 (by decide +kernel)⟩)))))
  · exact Or.inr (Or.inr (Or.inr (Or.inr (Or.inr (Or.inr (Or.inl (⟨st_dbl0 h0 45396917006225111810827341870339786373668205820213556558545403612143054885807 (by decide +kernel), st_add0 h0 h1 1302425003666229727183934505424442525176032462911395222240093548671708934016 (by decide +kernel)⟩)))))))
  · exact Or.inl (⟨st_dbl0 h0 1 (by decide +kernel), st_add0 h0 h1 1302425003666229727183934505424442525176032462911395222240093548671708934016 (by decide +kernel)⟩)
  · exact Or.inr (Or.inr (Or.inl (⟨st_dbl0 h0 45396917006225111810827341870339786373668205820213556558545403612143054885807 (by decide +kernel), st_add0 h0 h1 43039764708308492630505192622948619122025694675033623890314052956612362117402 (by decide +kernel)⟩)))
  · exact Or.inr (Or.inr (Or.inr (Or.inr (Or.inl (⟨st_dbl0 h0 1946656 (by decide +kernel), st_add0 h0 h1 29413069106274463474381376223629838744232671384783177375155860718774123457394 (by decide +kernel)⟩)))))
  · exact Or.inr (Or.inr (Or.inr (Or.inr (Or.inr (Or.inr (Or.inl (⟨st_dbl0 h0 24871845842723059791009793099485790699430777617945840999563689295137248234743 (by decide +kernel), st_add0 h0 h1 41737339704642262903321258117524176596849662212122228668073959407940653183394 (by decide +kernel)⟩)))))))
theorem q4_1 {S : LS} (h : Q4_0 S) : Q4_0 (ladSt 39382357235489614581723060781553021112529911719440698176882885853963445705823 true (ladSw (true != S.l) S)) := by
  unfold Q4_0 at h
  unfold Q4_0
  rcases h with ⟨h0, h1⟩ | ⟨h0, h1⟩ | ⟨h0, h1⟩ | ⟨h0, h1⟩ | ⟨h0, h1⟩ | ⟨h0, h1⟩ | ⟨h0, h1⟩ | ⟨h0, h1⟩
  · exact Or.inr (Or.inl (⟨st_add1 h0 h1 41737339704642262903321258117524176596849662212122228668073959407940653183394 (by decide +kernel), st_dbl1 h1 24871845842723059791009793099485790699430777617945840999563689295137248234743 (by decide +kernel)⟩))
  · exact Or.inr (Or.inr (Or.inr (Or.inl (⟨st_add1 h0 h1 29413069106274463474381376223629838744232671384783177375155860718774123457394 (by decide +kernel), st_dbl1 h1 1946656 (by decide +kernel)⟩))))
  · exact Or.inr (Or.inr (Or.inr (Or.inr (Or.inr (Or.inl (⟨st_add1 h0 h1 43039764708308492630505192622948619122025694675033623890314052956612362117402 (by decide +kernel), st_dbl1 h1 45396917006225111810827341870339786373668205820213556558545403612143054885807 (by decide +kernel)⟩))))))
  · exact Or.inr (Or.inr (Or.inr (Or.inr (Or.inr (Or.inr (Or.inr (⟨st_add1 h0 h1 1302425003666229727183934505424442525176032462911395222240093548671708934016 (by decide +kernel), st_dbl1 h1 1 (by decide +kernel)⟩)))))))
  · exact Or.inr (Or.inl (⟨st_add1 h0 h1 1302425003666229727183934505424442525176032462911395222240093548671708934016 (by decide +kernel), st_dbl1 h1 45396917006225111810827341870339786373668205820213556558545403612143054885807 (by decide +kernel)⟩))
  · exact Or.inr (Or.inr (Or.inr (Or.inl (⟨st_add1 h0 h1 43039764708308492630505192622948619122025694675033623890314052956612362117402 (by decide +kernel), st_dbl1 h1 1946656 (by decide +kernel)⟩))))
  · exact Or.inr (Or.inr (Or.inr (Or.inr (Or.inr (Or.inl (⟨st_add1 h0 h1 29413069106274463474381376223629838744232671384783177375155860718774123457394 (by decide +kernel), st_dbl1 h1 24871845842723059791009793099485790699430777617945840999563689295137248234743 (by decide +kernel)⟩))))))
  · exact Or.inr (Or.inr (Or.inr (Or.inr (Or.inr (Or.inr (Or.inr (⟨st_add1 h0 h1 41737339704642262903321258117524176596849662212122228668073959407940653183394 (by decide +kernel), st_dbl1 h1 1 (by decide +kernel)⟩)))))))
theorem q4_z0 {S : LS} (h : Q4_0 S) : Q4_1 (ladSt 39382357235489614581723060781553021112529911719440698176882885853963445705823 false (ladSw (false != S.l) S)) := by
  unfold Q4_0 at h
  unfold Q4_1
  rcases h with ⟨h0, h1⟩ | ⟨h0, h1⟩ | ⟨h0, h1⟩ | ⟨h0, h1⟩ | ⟨h0, h1⟩ | ⟨h0, h1⟩ | ⟨h0, h1⟩ | ⟨h0, h1⟩
  · exact Or.inl (⟨st_dbl0 h0 1 (by decide +kernel), st_add0 h0 h1 41737339704642262903321258117524176596849662212122228668073959407940653183394 (by decide +kernel)⟩)
  · exact Or.inr (Or.inl (⟨st_dbl0 h0 24871845842723059791009793099485790699430777617945840999563689295137248234743 (by decide +kernel), st_add0 h0 h1 29413069106274463474381376223629838744232671384783177375155860718774123457394 (by decide +kernel)⟩))
  · exact Or.inr (Or.inr (Or.inl (⟨st_dbl0 h0 1946656 (by decide +kernel), st_add0 h0 h1 43039764708308492630505192622948619122025694675033623890314052956612362117402 (by decide +kernel)⟩)))
  · exact Or.inr (Or.inr (Or.inr (⟨st_dbl0 h0 45396917006225111810827341870339786373668205820213556558545403612143054885807 (by decide +kernel), st_add0 h0 h1 1302425003666229727183934505424442525176032462911395222240093548671708934016 (by decide +kernel)⟩)))
  · exact Or.inl (⟨st_dbl0 h0 1 (by decide +kernel), st_add0 h0 h1 1302425003666229727183934505424442525176032462911395222240093548671708934016 (by decide +kernel)⟩)
  · exact Or.inr (Or.inl (⟨st_dbl0 h0 45396917006225111810827341870339786373668205820213556558545403612143054885807 (by decide +kernel), st_add0 h0 h1 43039764708308492630505192622948619122025694675033623890314052956612362117402 (by decide +kernel)⟩))
  · exact Or.inr (Or.inr (Or.inl (⟨st_dbl0 h0 1946656 (by decide +kernel), st_add0 h0 h1 29413069106274463474381376223629838744232671384783177375155860718774123457394 (by decide +kernel)⟩)))
  · exact Or.inr (Or.inr (Or.inr (⟨st_dbl0 h0 24871845842723059791009793099485790699430777617945840999563689295137248234743 (by decide +kernel), st_add0 h0 h1 41737339704642262903321258117524176596849662212122228668073959407940653183394 (by decide +kernel)⟩)))
theorem q4_z1 {S : LS} (h : Q4_1 S) : Q4_2 (ladSt 39382357235489614581723060781553021112529911719440698176882885853963445705823 false (ladSw (false != S.l) S)) := by
  unfold Q4_1 at h
  unfold Q4_2
  rcases h with ⟨h0, h1⟩ | ⟨h0, h1⟩ | ⟨h0, h1⟩ | ⟨h0, h1⟩
  · exact Or.inl (⟨st_dbl0 h0 1 (by decide +kernel), st_add0 h0 h1 41737339704642262903321258117524176596849662212122228668073959407940653183394 (by decide +kernel)⟩)
  · exact Or.inr (⟨st_dbl0 h0 1946656 (by decide +kernel), st_add0 h0 h1 43039764708308492630505192622948619122025694675033623890314052956612362117402 (by decide +kernel)⟩)
  · exact Or.inl (⟨st_dbl0 h0 1 (by decide +kernel), st_add0 h0 h1 1302425003666229727183934505424442525176032462911395222240093548671708934016 (by decide +kernel)⟩)
  · exact Or.inr (⟨st_dbl0 h0 1946656 (by decide +kernel), st_add0 h0 h1 29413069106274463474381376223629838744232671384783177375155860718774123457394 (by decide +kernel)⟩)
theorem q4_z2 {S : LS} (h : Q4_2 S) : Q4_3 (ladSt 39382357235489614581723060781553021112529911719440698176882885853963445705823 false (ladSw (false != S.l) S)) := by
  unfold Q4_2 at h
  unfold Q4_3
  rcases h with ⟨h0, h1⟩ | ⟨h0, h1⟩
  · exact ⟨st_dbl0 h0 1 (by decide +kernel), st_add0 h0 h1 41737339704642262903321258117524176596849662212122228668073959407940653183394 (by decide +kernel)⟩
  · exact ⟨st_dbl0 h0 1 (by decide +kernel), st_add0 h0 h1 1302425003666229727183934505424442525176032462911395222240093548671708934016 (by decide +kernel)⟩
theorem q4_start : Q4_0 ⟨1, 0, 39382357235489614581723060781553021112529911719440698176882885853963445705823, 1, false⟩ := Or.inl (⟨⟨by decide, by decide, 1, by decide +kernel, by decide +kernel⟩, ⟨by decide, by decide, 1, by decide +kernel, by decide +kernel⟩⟩)
theorem q4_all (c : Nat → Nat) : ∀ k, Q4_0 (ladS c 39382357235489614581723060781553021112529911719440698176882885853963445705823 k)
  | 0 => q4_start
  | k + 1 => by
    rw [ladS]
    cases ladBit c (254 - k)
    · exact q4_0 (q4_all c k)
    · exact q4_1 (q4_all c k)
theorem small4 {c : Nat → Nat} (h0 : ladBit c 0 = false) (h1 : ladBit c 1 = false) (h2 : ladBit c 2 = false) : rawN c 39382357235489614581723060781553021112529911719440698176882885853963445705823 = 0 := by
  have a := q4_all c 252
  have b : Q4_1 (ladS c 39382357235489614581723060781553021112529911719440698176882885853963445705823 253) := by rw [ladS, show 254 - 252 = 2 from rfl, h2]; exact q4_z0 a
  have d : Q4_2 (ladS c 39382357235489614581723060781553021112529911719440698176882885853963445705823 254) := by rw [ladS, show 254 - 253 = 1 from rfl, h1]; exact q4_z1 b
  have e : Q4_3 (ladS c 39382357235489614581723060781553021112529911719440698176882885853963445705823 255) := by rw [ladS, show 254 - 254 = 0 from rfl, h0]; exact q4_z2 d
  have f : Cl 1 0 (R0 (ladS c 39382357235489614581723060781553021112529911719440698176882885853963445705823 255)).1 (R0 (ladS c 39382357235489614581723060781553021112529911719440698176882885853963445705823 255)).2 := by
    unfold Q4_3 at e
    rcases e with ⟨h, _⟩
    all_goals exact h
  exact raw_zero f
theorem clamp_bits (f : Nat → Nat) : ladBit (clampF f) 0 = false ∧ ladBit (clampF f) 1 = false ∧ ladBit (clampF f) 2 = false := by
  have h : ∀ i, i < 3 → ladBit (clampF f) i = false := fun i hi => by
    unfold ladBit clampF
    rw [show i / 8 = 0 by omega, if_pos rfl, show i % 8 = i by omega]
    have e : (f 0 &&& 248) >>> i &&& 1 = 0 := by
      refine Nat.eq_of_testBit_eq fun j => ?_
      rw [Nat.testBit_and, Nat.testBit_shiftRight, Nat.testBit_and]
      cases j with
      | zero =>
        have : Nat.testBit 248 (i + 0) = false := by
          have : i = 0 ∨ i = 1 ∨ i = 2 := by omega
          rcases this with rfl | rfl | rfl <;> decide
        rw [this]; simp
      | succ j => 
        have : Nat.testBit 1 (j + 1) = false := by
          rw [Nat.testBit_succ]; simp
        rw [this]; simp
    rw [e]; rfl
  exact ⟨h 0 (by omega), h 1 (by omega), h 2 (by omega)⟩
def oneF : Nat → Nat := fun i => if i = 0 then 1 else 0
def minusF : Nat → Nat := upd (upd (ffF 32) 0 236) 31 127
def ofList (l : List Nat) : Nat → Nat := fun i => l.getD i 0
def ord8aF : Nat → Nat := ofList [224, 235, 122, 124, 59, 65, 184, 174, 22, 86, 227, 250, 241, 159, 196, 106, 218, 9, 141, 235, 156, 50, 177, 253, 134, 98, 5, 22, 95, 73, 184, 0]
def ord8bF : Nat → Nat := ofList [95, 156, 149, 188, 163, 80, 140, 36, 177, 208, 177, 85, 156, 131, 239, 91, 4, 68, 92, 196, 88, 28, 142, 134, 216, 34, 78, 221, 208, 159, 17, 87]
theorem small_zeroF (f : Nat → Nat) : sharedN f zeroF = 0 := by
  obtain ⟨h0, h1, h2⟩ := clamp_bits f
  unfold sharedN
  rw [show kVal zeroF % two255 % pr = 0 by decide +kernel]
  exact small0 h0 h1 h2
theorem small_oneF (f : Nat → Nat) : sharedN f oneF = 0 := by
  obtain ⟨h0, h1, h2⟩ := clamp_bits f
  unfold sharedN
  rw [show kVal oneF % two255 % pr = 1 by decide +kernel]
  exact small1 h0 h1 h2
theorem small_minusF (f : Nat → Nat) : sharedN f minusF = 0 := by
  obtain ⟨h0, h1, h2⟩ := clamp_bits f
  unfold sharedN
  rw [show kVal minusF % two255 % pr = 57896044618658097711785492504343953926634992332820282019728792003956564819948 by decide +kernel]
  exact small2 h0 h1 h2
theorem small_ord8aF (f : Nat → Nat) : sharedN f ord8aF = 0 := by
  obtain ⟨h0, h1, h2⟩ := clamp_bits f
  unfold sharedN
  rw [show kVal ord8aF % two255 % pr = 325606250916557431795983626356110631294008115727848805560023387167927233504 by decide +kernel]
  exact small3 h0 h1 h2
theorem small_ord8bF (f : Nat → Nat) : sharedN f ord8bF = 0 := by
  obtain ⟨h0, h1, h2⟩ := clamp_bits f
  unfold sharedN
  rw [show kVal ord8bF % two255 % pr = 39382357235489614581723060781553021112529911719440698176882885853963445705823 by decide +kernel]
  exact small4 h0 h1 h2
end Go.Proofs.YtdmioipdmdmkhaaDoor
