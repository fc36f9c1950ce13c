/- Edwards' curve is a group's; the ladder's coordinates are those of a point's multiples on it. -/
import Derived.Test.YtdmioipdmdmkhaaDoorF8
set_option linter.unusedVariables false
set_option linter.unusedSectionVars false
set_option linter.unusedSimpArgs false
namespace Go.Proofs.YtdmioipdmdmkhaaDoor
class Fld (R : Type) [Lean.Grind.CommRing R] where
  fi : R → R
  mul_fi : ∀ {a : R}, a ≠ 0 → a * fi a = 1
  one_ne : (1 : R) ≠ 0
  two_ne : (2 : R) ≠ 0
open Fld
section
variable {R : Type} [Lean.Grind.CommRing R] [Fld R]
theorem mul_zero_or {a b : R} (h : a * b = 0) : a = 0 ∨ b = 0 := by
  by_cases ha : a = 0
  · exact .inl ha
  · refine .inr ?_
    have e := mul_fi ha
    generalize fi a = i at *
    grind
theorem mul_ne {a b : R} (ha : a ≠ 0) (hb : b ≠ 0) : a * b ≠ 0 := fun h => (mul_zero_or h).elim ha hb
theorem mul_left_inj {a b c : R} (ha : a ≠ 0) (h : a * b = a * c) : b = c := by
  have e := mul_fi ha
  generalize fi a = i at *
  grind
theorem eq_of_sub {a b : R} (h : a - b = 0) : a = b := by grind
/-- A square. -/
def Sq (a : R) : Prop := ∃ s : R, s * s = a
end
section
variable {R : Type} [Lean.Grind.CommRing R] [Fld R]
/-- A point. -/
structure Pt (R : Type) where
  x : R
  y : R
def On (D : R) (P : Pt R) : Prop := P.x * P.x + P.y * P.y = 1 + D * P.x * P.x * P.y * P.y
/-- No two points of the curve make a sum's denominator 0. -/
theorem dens {D : R} (hD : ¬ Sq D) {x1 y1 x2 y2 e : R} (h1 : x1 * x1 + y1 * y1 = 1 + D * x1 * x1 * y1 * y1) (h2 : x2 * x2 + y2 * y2 = 1 + D * x2 * x2 * y2 * y2) (he : e * e = 1) : D * x1 * x2 * y1 * y2 ≠ e := by
  intro h
  have i1 : (x1 + e * y1) * (x1 + e * y1) = D * ((x1 * y1 * (x2 + y2)) * (x1 * y1 * (x2 + y2))) := by grind
  have i2 : (x1 - e * y1) * (x1 - e * y1) = D * ((x1 * y1 * (x2 - y2)) * (x1 * y1 * (x2 - y2))) := by grind
  have hne : x1 * y1 ≠ 0 := fun h0 => by
    have e0 : e = 0 := by rw [← h, show D * x1 * x2 * y1 * y2 = D * (x1 * y1) * x2 * y2 by grind, h0]; grind
    exact one_ne (R := R) (by rw [← he, e0]; grind)
  have key : ∀ s t : R, s * s = D * (t * t) → t = 0 := fun s t hs => Classical.byContradiction fun ht => hD ⟨s * fi t, by have := mul_fi ht; grind⟩
  have k1 := (mul_zero_or (key _ _ i1)).resolve_left hne
  have k2 := (mul_zero_or (key _ _ i2)).resolve_left hne
  have k3 : (2 : R) * x2 = 0 := by grind
  have k4 := (mul_zero_or k3).resolve_left two_ne
  have e0 : e = 0 := by rw [← h, k4]; grind
  exact one_ne (R := R) (by rw [← he, e0]; grind)
def dp (D : R) (P Q : Pt R) : R := 1 + D * P.x * Q.x * P.y * Q.y
def dq (D : R) (P Q : Pt R) : R := 1 - D * P.x * Q.x * P.y * Q.y
theorem dp_ne {D : R} (hD : ¬ Sq D) {P Q : Pt R} (hP : On D P) (hQ : On D Q) : dp D P Q ≠ 0 := fun h => dens hD hP hQ (e := -1) (by grind) (by unfold dp at h; grind)
theorem dq_ne {D : R} (hD : ¬ Sq D) {P Q : Pt R} (hP : On D P) (hQ : On D Q) : dq D P Q ≠ 0 := fun h => dens hD hP hQ (e := 1) (by grind) (by unfold dq at h; grind)
/-- The sum. -/
def pa (D : R) (P Q : Pt R) : Pt R := ⟨(P.x * Q.y + P.y * Q.x) * fi (dp D P Q), (P.y * Q.y - P.x * Q.x) * fi (dq D P Q)⟩
def pz : Pt R := ⟨0, 1⟩
def pn (P : Pt R) : Pt R := ⟨-P.x, P.y⟩
theorem on_zero (D : R) : On D pz := by unfold On pz; grind
theorem on_neg {D : R} {P : Pt R} (h : On D P) : On D (pn P) := by unfold On pn at *; grind
theorem pa_comm (D : R) (P Q : Pt R) : pa D P Q = pa D Q P := by
  unfold pa
  have h1 : dp D P Q = dp D Q P := by unfold dp; grind
  have h2 : dq D P Q = dq D Q P := by unfold dq; grind
  rw [h1, h2]
  congr 2 <;> grind
theorem pa_zero (D : R) (P : Pt R) : pa D P pz = P := by
  unfold pa pz dp dq
  have h1 : (1 : R) + D * P.x * 0 * P.y * 1 = 1 := by grind
  have h2 : (1 : R) - D * P.x * 0 * P.y * 1 = 1 := by grind
  have h3 : fi (1 : R) = 1 := by have := mul_fi (R := R) one_ne; grind
  simp only [h1, h2, h3]
  cases P
  congr 1 <;> grind
theorem pa_neg {D : R} (hD : ¬ Sq D) {P : Pt R} (h : On D P) : pa D P (pn P) = pz := by
  have h1 := mul_fi (dp_ne hD h (on_neg h))
  have h2 := mul_fi (dq_ne hD h (on_neg h))
  have hq : dq D P (pn P) = P.y * P.y + P.x * P.x := by unfold dq pn; unfold On at h; grind
  unfold pa pz
  congr 1
  · unfold pn; grind
  · rw [hq] at h2 ⊢
    unfold pn
    generalize fi (P.y * P.y + P.x * P.x) = i at *
    grind
theorem on_add {D : R} (hD : ¬ Sq D) {P Q : Pt R} (hP : On D P) (hQ : On D Q) : On D (pa D P Q) := by
  have h1 := mul_fi (dp_ne hD hP hQ)
  have h2 := mul_fi (dq_ne hD hP hQ)
  obtain ⟨x1, y1⟩ := P
  obtain ⟨x2, y2⟩ := Q
  unfold On at *
  unfold pa
  simp only at *
  generalize fi (dp D ⟨x1, y1⟩ ⟨x2, y2⟩) = i at *
  generalize fi (dq D ⟨x1, y1⟩ ⟨x2, y2⟩) = j at *
  unfold dp at h1
  unfold dq at h2
  simp only at h1 h2
  have hne : ∀ a : R, a * ((1 + D * x1 * x2 * y1 * y2) * (1 + D * x1 * x2 * y1 * y2) * ((1 - D * x1 * x2 * y1 * y2) * (1 - D * x1 * x2 * y1 * y2))) = 0 → a = 0 := fun a ha => by
    have : a * (((1 + D * x1 * x2 * y1 * y2) * i) * ((1 + D * x1 * x2 * y1 * y2) * i) * (((1 - D * x1 * x2 * y1 * y2) * j) * ((1 - D * x1 * x2 * y1 * y2) * j))) = 0 := by
      have e : a * (((1 + D * x1 * x2 * y1 * y2) * i) * ((1 + D * x1 * x2 * y1 * y2) * i) * (((1 - D * x1 * x2 * y1 * y2) * j) * ((1 - D * x1 * x2 * y1 * y2) * j))) = (a * ((1 + D * x1 * x2 * y1 * y2) * (1 + D * x1 * x2 * y1 * y2) * ((1 - D * x1 * x2 * y1 * y2) * (1 - D * x1 * x2 * y1 * y2)))) * (i * i * (j * j)) := by generalize (1 + D * x1 * x2 * y1 * y2) = u; generalize (1 - D * x1 * x2 * y1 * y2) = v; grind
      rw [e, ha]; grind
    rw [h1, h2] at this
    grind
  refine eq_of_sub (hne _ ?_)
  have hx : (x1 * y2 + y1 * x2) * i * (1 + D * x1 * x2 * y1 * y2) = x1 * y2 + y1 * x2 := by rw [Lean.Grind.Semiring.mul_assoc]; rw [show i * (1 + D * x1 * x2 * y1 * y2) = 1 by grind]; grind
  have hy : (y1 * y2 - x1 * x2) * j * (1 - D * x1 * x2 * y1 * y2) = y1 * y2 - x1 * x2 := by rw [Lean.Grind.Semiring.mul_assoc]; rw [show j * (1 - D * x1 * x2 * y1 * y2) = 1 by grind]; grind
  generalize hX : (x1 * y2 + y1 * x2) * i = X at *
  generalize hY : (y1 * y2 - x1 * x2) * j = Y at *
  generalize hp : (1 + D * x1 * x2 * y1 * y2) = p at *
  generalize hq : (1 - D * x1 * x2 * y1 * y2) = q at *
  have goal : (X * p) * (X * p) * (q * q) + (Y * q) * (Y * q) * (p * p) - (p * p * (q * q) + D * ((X * p) * (X * p)) * ((Y * q) * (Y * q))) = 0 := by
    rw [hx, hy]
    subst hp hq
    clear h1 h2 hne hX hY hx hy
    grind
  rw [← goal]
  clear goal h1 h2 hne hX hY hx hy hp hq hP hQ
  grind
end
section
variable {R : Type} [Lean.Grind.CommRing R] [Fld R]
/-- What the sum's coordinates are, times their denominators. -/
theorem pa_x {D : R} (hD : ¬ Sq D) {P Q : Pt R} (hP : On D P) (hQ : On D Q) : (pa D P Q).x * dp D P Q = P.x * Q.y + P.y * Q.x := by
  have h1 := mul_fi (dp_ne hD hP hQ)
  show (P.x * Q.y + P.y * Q.x) * fi (dp D P Q) * dp D P Q = _
  generalize fi (dp D P Q) = i at *
  generalize dp D P Q = p at *
  grind
theorem pa_y {D : R} (hD : ¬ Sq D) {P Q : Pt R} (hP : On D P) (hQ : On D Q) : (pa D P Q).y * dq D P Q = P.y * Q.y - P.x * Q.x := by
  have h1 := mul_fi (dq_ne hD hP hQ)
  show (P.y * Q.y - P.x * Q.x) * fi (dq D P Q) * dq D P Q = _
  generalize fi (dq D P Q) = i at *
  generalize dq D P Q = p at *
  grind
theorem assoc_x {D x1 y1 x2 y2 x3 y3 : R} (h1 : x1 * x1 + y1 * y1 = 1 + D * x1 * x1 * y1 * y1) (h2 : x2 * x2 + y2 * y2 = 1 + D * x2 * x2 * y2 * y2) (h3 : x3 * x3 + y3 * y3 = 1 + D * x3 * x3 * y3 * y3) :
    ((x1 * y2 + y1 * x2) * (1 - D * x1 * x2 * y1 * y2) * y3 + (y1 * y2 - x1 * x2) * (1 + D * x1 * x2 * y1 * y2) * x3) * ((1 + D * x2 * x3 * y2 * y3) * (1 - D * x2 * x3 * y2 * y3) + D * x1 * y1 * (x2 * y3 + y2 * x3) * (y2 * y3 - x2 * x3)) =
    (x1 * (y2 * y3 - x2 * x3) * (1 + D * x2 * x3 * y2 * y3) + y1 * (x2 * y3 + y2 * x3) * (1 - D * x2 * x3 * y2 * y3)) * ((1 + D * x1 * x2 * y1 * y2) * (1 - D * x1 * x2 * y1 * y2) + D * (x1 * y2 + y1 * x2) * (y1 * y2 - x1 * x2) * x3 * y3) := by
  grind
theorem assoc_y {D x1 y1 x2 y2 x3 y3 : R} (h1 : x1 * x1 + y1 * y1 = 1 + D * x1 * x1 * y1 * y1) (h2 : x2 * x2 + y2 * y2 = 1 + D * x2 * x2 * y2 * y2) (h3 : x3 * x3 + y3 * y3 = 1 + D * x3 * x3 * y3 * y3) :
    ((y1 * y2 - x1 * x2) * (1 + D * x1 * x2 * y1 * y2) * y3 - (x1 * y2 + y1 * x2) * (1 - D * x1 * x2 * y1 * y2) * x3) * ((1 + D * x2 * x3 * y2 * y3) * (1 - D * x2 * x3 * y2 * y3) - D * x1 * y1 * (x2 * y3 + y2 * x3) * (y2 * y3 - x2 * x3)) =
    (y1 * (y2 * y3 - x2 * x3) * (1 + D * x2 * x3 * y2 * y3) - x1 * (x2 * y3 + y2 * x3) * (1 - D * x2 * x3 * y2 * y3)) * ((1 + D * x1 * x2 * y1 * y2) * (1 - D * x1 * x2 * y1 * y2) - D * (x1 * y2 + y1 * x2) * (y1 * y2 - x1 * x2) * x3 * y3) := by
  grind
theorem pa_assoc {D : R} (hD : ¬ Sq D) {P Q R : Pt R} (hP : On D P) (hQ : On D Q) (hR : On D R) : pa D (pa D P Q) R = pa D P (pa D Q R) := by
  have o12 := on_add hD hP hQ
  have o23 := on_add hD hQ hR
  have a1 := pa_x hD hP hQ
  have a2 := pa_y hD hP hQ
  have b1 := pa_x hD hQ hR
  have b2 := pa_y hD hQ hR
  have l1 := pa_x hD o12 hR
  have l2 := pa_y hD o12 hR
  have r1 := pa_x hD hP o23
  have r2 := pa_y hD hP o23
  have n1 := dp_ne hD o12 hR
  have n2 := dq_ne hD o12 hR
  have n3 := dp_ne hD hP o23
  have n4 := dq_ne hD hP o23
  have m1 := dp_ne hD hP hQ
  have m2 := dq_ne hD hP hQ
  have m3 := dp_ne hD hQ hR
  have m4 := dq_ne hD hQ hR
  obtain ⟨x1, y1⟩ := P
  obtain ⟨x2, y2⟩ := Q
  obtain ⟨x3, y3⟩ := R
  have ex := assoc_x hP hQ hR
  have ey := assoc_y hP hQ hR
  unfold dp dq at *
  simp only at *
  generalize (pa D (pa D ⟨x1, y1⟩ ⟨x2, y2⟩) ⟨x3, y3⟩) = L at *
  generalize (pa D ⟨x1, y1⟩ (pa D ⟨x2, y2⟩ ⟨x3, y3⟩)) = R at *
  generalize (pa D ⟨x1, y1⟩ ⟨x2, y2⟩) = A at *
  generalize (pa D ⟨x2, y2⟩ ⟨x3, y3⟩) = B at *
  obtain ⟨Lx, Ly⟩ := L
  obtain ⟨Rx, Ry⟩ := R
  obtain ⟨Ax, Ay⟩ := A
  obtain ⟨Bx, By⟩ := B
  simp only at *
  clear hP hQ hR o12 o23
  generalize hp12 : 1 + D * x1 * x2 * y1 * y2 = p12 at *
  generalize hq12 : 1 - D * x1 * x2 * y1 * y2 = q12 at *
  generalize hp23 : 1 + D * x2 * x3 * y2 * y3 = p23 at *
  generalize hq23 : 1 - D * x2 * x3 * y2 * y3 = q23 at *
  rw [← a1, ← a2, ← b1, ← b2] at ex ey
  congr 1
  · -- x
    have k : p12 * q12 * (p23 * q23) * ((1 + D * Ax * x3 * Ay * y3) * (1 + D * x1 * Bx * y1 * By)) ≠ 0 := mul_ne (mul_ne (mul_ne m1 m2) (mul_ne m3 m4)) (mul_ne n1 n3)
    refine mul_left_inj k ?_
    have e1 : p12 * q12 * (p23 * q23) * ((1 + D * Ax * x3 * Ay * y3) * (1 + D * x1 * Bx * y1 * By)) * Lx = (p12 * q12 * (Lx * (1 + D * Ax * x3 * Ay * y3))) * (p23 * q23 * (1 + D * x1 * Bx * y1 * By)) := by grind
    have e2 : p12 * q12 * (p23 * q23) * ((1 + D * Ax * x3 * Ay * y3) * (1 + D * x1 * Bx * y1 * By)) * Rx = (p23 * q23 * (Rx * (1 + D * x1 * Bx * y1 * By))) * (p12 * q12 * (1 + D * Ax * x3 * Ay * y3)) := by grind
    rw [e1, e2, l1, r1]
    clear e1 e2 l1 r1 l2 r2 k n1 n2 n3 n4 m1 m2 m3 m4 ey a1 a2 b1 b2 hp12 hq12 hp23 hq23
    grind
  · have k : p12 * q12 * (p23 * q23) * ((1 - D * Ax * x3 * Ay * y3) * (1 - D * x1 * Bx * y1 * By)) ≠ 0 := mul_ne (mul_ne (mul_ne m1 m2) (mul_ne m3 m4)) (mul_ne n2 n4)
    refine mul_left_inj k ?_
    have e1 : p12 * q12 * (p23 * q23) * ((1 - D * Ax * x3 * Ay * y3) * (1 - D * x1 * Bx * y1 * By)) * Ly = (p12 * q12 * (Ly * (1 - D * Ax * x3 * Ay * y3))) * (p23 * q23 * (1 - D * x1 * Bx * y1 * By)) := by grind
    have e2 : p12 * q12 * (p23 * q23) * ((1 - D * Ax * x3 * Ay * y3) * (1 - D * x1 * Bx * y1 * By)) * Ry = (p23 * q23 * (Ry * (1 - D * x1 * Bx * y1 * By))) * (p12 * q12 * (1 - D * Ax * x3 * Ay * y3)) := by grind
    rw [e1, e2, l2, r2]
    clear e1 e2 l1 r1 l2 r2 k n1 n2 n3 n4 m1 m2 m3 m4 ex a1 a2 b1 b2 hp12 hq12 hp23 hq23
    grind
/-- A point's multiples. -/
def pm' (D : R) (P : Pt R) : Nat → Pt R
  | 0 => pz
  | n + 1 => pa D (pm' D P n) P
theorem on_mul {D : R} (hD : ¬ Sq D) {P : Pt R} (hP : On D P) : ∀ n, On D (pm' D P n)
  | 0 => on_zero D
  | n + 1 => on_add hD (on_mul hD hP n) hP
theorem zero_pa (D : R) (P : Pt R) : pa D pz P = P := (pa_comm D pz P).trans (pa_zero D P)
theorem mul_one_ (D : R) (P : Pt R) : pm' D P 1 = P := zero_pa D P
theorem mul_add_ {D : R} (hD : ¬ Sq D) {P : Pt R} (hP : On D P) (m : Nat) : ∀ n, pm' D P (m + n) = pa D (pm' D P m) (pm' D P n)
  | 0 => (pa_zero D _).symm
  | n + 1 => by
    show pa D (pm' D P (m + n)) P = pa D (pm' D P m) (pa D (pm' D P n) P)
    rw [mul_add_ hD hP m n, pa_assoc hD (on_mul hD hP m) (on_mul hD hP n) hP]
theorem mul_mul_ {D : R} (hD : ¬ Sq D) {P : Pt R} (hP : On D P) (m : Nat) : ∀ n, pm' D (pm' D P m) n = pm' D P (m * n)
  | 0 => rfl
  | n + 1 => by
    show pa D (pm' D (pm' D P m) n) (pm' D P m) = _
    rw [mul_mul_ hD hP m n, ← mul_add_ hD hP, Nat.mul_succ]
theorem mul_zero_pt {D : R} : ∀ n, pm' D pz n = pz
  | 0 => rfl
  | n + 1 => by show pa D (pm' D pz n) pz = pz; rw [mul_zero_pt n, pa_zero]
end
section
variable {R : Type} [Lean.Grind.CommRing R] [Fld R]
abbrev gX (x z : R) : R := (x + z) * (x + z) * ((x - z) * (x - z))
abbrev gZ (k x z : R) : R := ((x + z) * (x + z) - (x - z) * (x - z)) * ((x + z) * (x + z) + k * ((x + z) * (x + z) - (x - z) * (x - z)))
abbrev hX (x z s t : R) : R := ((s - t) * (x + z) + (s + t) * (x - z)) * ((s - t) * (x + z) + (s + t) * (x - z))
abbrev hZ (u x z s t : R) : R := u * (((s - t) * (x + z) - (s + t) * (x - z)) * ((s - t) * (x + z) - (s + t) * (x - z)))
/-- The two curves: of the line's points, and of the twist's. -/
structure Mdl (k D s : R) : Prop where
  nsq : ¬ Sq D
  one : s * s = 1
  kne : k ≠ 0
  kne' : k + 1 ≠ 0
  kind : (s = 1 ∧ D * (k + 1) = k) ∨ (s = -1 ∧ D * k = k + 1)
/-- (X, Z) are a point's coordinates on Montgomery's line. -/
def Rep (s : R) (P : Pt R) (X Z : R) : Prop := ∃ l : R, l ≠ 0 ∧ X = l * (1 + P.y) ∧ Z = s * l * (1 - P.y)
theorem rep_dbl {k D s : R} (M : Mdl k D s) {P : Pt R} (hP : On D P) {X Z : R} (h : Rep s P X Z) : Rep s (pa D P P) (gX X Z) (gZ k X Z) := by
  obtain ⟨l, hl, qX, qZ⟩ := h
  have hq := dq_ne M.nsq hP hP
  have hy := pa_y M.nsq hP hP
  generalize hR : pa D P P = R at *
  obtain ⟨x, y⟩ := P
  obtain ⟨rx, ry⟩ := R
  unfold On at hP
  unfold dq at *
  simp only at *
  clear hR
  have hq2 : 1 - D * x * x * y * y = 2 - x * x - y * y := by grind
  rw [hq2] at hq hy
  have hk := M.kne
  have hk' := M.kne'
  have e1 : (2 - x * x - y * y) * (1 + ry) = 2 * (1 - x * x) := by grind
  have e2 : (2 - x * x - y * y) * (1 - ry) = 2 * (1 - y * y) := by grind
  have h2 : (2 : R) ≠ 0 := two_ne
  have h8 : (8 : R) ≠ 0 := by rw [show (8 : R) = 2 * (2 * 2) by grind]; exact mul_ne two_ne (mul_ne two_ne two_ne)
  have fin : ∀ K : R, K ≠ 0 → y * y = K * (1 - x * x) → gZ k X Z = 16 * l * l * l * l * K * (s * (1 - y * y)) → (gX X Z = 16 * l * l * l * l * (y * y)) → Rep s ⟨rx, ry⟩ (gX X Z) (gZ k X Z) := by
    intro K hK eK eZ eX
    refine ⟨8 * (l * l * (l * l)) * K * (2 - x * x - y * y), mul_ne (mul_ne (mul_ne h8 (mul_ne (mul_ne hl hl) (mul_ne hl hl))) hK) hq, ?_, ?_⟩
    · rw [eX]
      show _ = 8 * (l * l * (l * l)) * K * (2 - x * x - y * y) * (1 + ry)
      have : 8 * (l * l * (l * l)) * K * (2 - x * x - y * y) * (1 + ry) = 8 * (l * l * (l * l)) * K * ((2 - x * x - y * y) * (1 + ry)) := by grind
      rw [this, e1, eK]
      clear qX qZ hP hq hq2 hy e1 e2 eX eZ this
      generalize y * y = yy at *
      generalize x * x = xx at *
      grind
    · rw [eZ]
      show _ = s * (8 * (l * l * (l * l)) * K * (2 - x * x - y * y)) * (1 - ry)
      have : s * (8 * (l * l * (l * l)) * K * (2 - x * x - y * y)) * (1 - ry) = s * (8 * (l * l * (l * l)) * K) * ((2 - x * x - y * y) * (1 - ry)) := by grind
      rw [this, e2]
      clear qX qZ hP hq hq2 hy e1 e2 eX eZ this eK
      generalize y * y = yy at *
      grind
  have nz : y * y = 0 → y = 0 := fun h => (mul_zero_or h).elim id id
  rcases M.kind with ⟨hs, hD⟩ | ⟨hs, hD⟩
  · have eK : y * y = (1 + k * (1 - y * y)) * (1 - x * x) := by
      clear qX qZ hq hq2 hy e1 e2 fin nz
      grind
    refine fin (1 + k * (1 - y * y)) (fun h0 => hk' ?_) eK ?_ ?_
    · have hy0 := nz (by rw [eK, h0]; grind)
      rw [hy0] at h0; grind
    · rw [qX, qZ, hs]; clear qX qZ hP hq hq2 hy e1 e2 fin nz eK; unfold gZ; change _ = _; grind
    · rw [qX, qZ, hs]; clear qX qZ hP hq hq2 hy e1 e2 fin nz eK; unfold gX; grind
  · have eK : y * y = (y * y - k * (1 - y * y)) * (1 - x * x) := by
      clear qX qZ hq hq2 hy e1 e2 fin nz
      grind
    refine fin (y * y - k * (1 - y * y)) (fun h0 => hk ?_) eK ?_ ?_
    · have hy0 := nz (by rw [eK, h0]; grind)
      rw [hy0] at h0; grind
    · rw [qX, qZ, hs]; clear qX qZ hP hq hq2 hy e1 e2 fin nz eK; unfold gZ; grind
    · rw [qX, qZ, hs]; clear qX qZ hP hq hq2 hy e1 e2 fin nz eK; unfold gX; grind
/-- The sum's coordinate out of the difference's. -/
theorem sum_id {D x1 y1 x2 y2 : R} (h1 : x1 * x1 + y1 * y1 = 1 + D * x1 * x1 * y1 * y1) (h2 : x2 * x2 + y2 * y2 = 1 + D * x2 * x2 * y2 * y2) :
    (y1 + y2) * (y1 + y2) * ((1 - D * x1 * x2 * y1 * y2) - (y1 * y2 - x1 * x2)) * ((1 + D * x1 * x2 * y1 * y2) - (y1 * y2 + x1 * x2)) =
    (y1 - y2) * (y1 - y2) * ((1 - D * x1 * x2 * y1 * y2) + (y1 * y2 - x1 * x2)) * ((1 + D * x1 * x2 * y1 * y2) + (y1 * y2 + x1 * x2)) := by grind
/-- The base's number u: of the difference of the two points. -/
theorem rep_sum {k D s : R} (M : Mdl k D s) {P Q : Pt R} (hP : On D P) (hQ : On D Q) {X Z S T u : R} (h : Rep s P X Z) (kk : Rep s Q S T) (hu : s * u * (1 - (pa D P (pn Q)).y) = 1 + (pa D P (pn Q)).y) (hn : 1 - (pa D P (pn Q)).y ≠ 0) (hn' : 1 + (pa D P (pn Q)).y ≠ 0) :
    Rep s (pa D P Q) (hX X Z S T) (hZ u X Z S T) := by
  obtain ⟨l, hl, qX, qZ⟩ := h
  obtain ⟨m, hm, qS, qT⟩ := kk
  have hq := dq_ne M.nsq hP hQ
  have hp := dq_ne M.nsq hP (on_neg hQ)
  have ha := pa_y M.nsq hP hQ
  have hb := pa_y M.nsq hP (on_neg hQ)
  have hs1 := M.one
  generalize hR : pa D P Q = R at *
  generalize hB : pa D P (pn Q) = B at *
  clear hR hB
  obtain ⟨x1, y1⟩ := P
  obtain ⟨x2, y2⟩ := Q
  obtain ⟨rx, ry⟩ := R
  obtain ⟨bx, yb⟩ := B
  have id := sum_id hP hQ
  unfold On at hP hQ
  unfold dq at hq hp ha hb
  unfold pn at hp hb
  simp only at *
  have hp1 : 1 - D * x1 * -x2 * y1 * y2 = 1 + D * x1 * x2 * y1 * y2 := by grind
  have hb1 : y1 * y2 - x1 * -x2 = y1 * y2 + x1 * x2 := by grind
  rw [hp1] at hp hb
  rw [hb1] at hb
  have h2 : (2 : R) ≠ 0 := two_ne
  have eX : hX X Z S T = 16 * (l * l * (m * m)) * ((y1 + y2) * (y1 + y2)) := by
    rw [qX, qZ, qS, qT]
    clear qX qZ qS qT hP hQ hq hp ha hb id hp1 hb1 hu
    unfold hX
    rcases M.kind with ⟨hs, _⟩ | ⟨hs, _⟩ <;> rw [hs] <;> grind
  have eZ : hZ u X Z S T = u * (16 * (l * l * (m * m)) * ((y1 - y2) * (y1 - y2))) := by
    rw [qX, qZ, qS, qT]
    clear qX qZ qS qT hP hQ hq hp ha hb id hp1 hb1 hu eX
    unfold hZ
    rcases M.kind with ⟨hs, _⟩ | ⟨hs, _⟩ <;> rw [hs] <;> grind
  -- the ratio
  have id2 : (y1 + y2) * (y1 + y2) * ((1 - ry) * (1 - yb)) = (y1 - y2) * (y1 - y2) * ((1 + ry) * (1 + yb)) := by
    refine mul_left_inj (mul_ne hq hp) ?_
    generalize hqq : 1 - D * x1 * x2 * y1 * y2 = q at *
    generalize hpp : 1 + D * x1 * x2 * y1 * y2 = p at *
    rw [← ha, ← hb] at id
    clear ha hb hP hQ qX qZ qS qT eX eZ hu hqq hpp hp1 hb1
    grind
  have id3 : (y1 + y2) * (y1 + y2) * (1 - ry) = s * u * ((y1 - y2) * (y1 - y2)) * (1 + ry) := by
    refine mul_left_inj hn ?_
    clear ha hb hP hQ qX qZ qS qT eX eZ id hp1 hb1 hq hp
    rw [show (1 - yb) * (s * u * ((y1 - y2) * (y1 - y2)) * (1 + ry)) = (s * u * (1 - yb)) * ((y1 - y2) * (y1 - y2) * (1 + ry)) by grind, hu]
    grind
  have hc : l * l * (m * m) ≠ 0 := mul_ne (mul_ne hl hl) (mul_ne hm hm)
  rw [eX, eZ]
  generalize l * l * (m * m) = c at *
  have h8 : (8 : R) ≠ 0 := by rw [show (8 : R) = 2 * (2 * 2) by grind]; exact mul_ne two_ne (mul_ne two_ne two_ne)
  refine ⟨8 * c * ((y1 + y2) * (y1 + y2) + s * u * ((y1 - y2) * (y1 - y2))), mul_ne (mul_ne h8 hc) (fun h0 => ?_), ?_, ?_⟩
  · -- both would be 0
    have hA : (y1 + y2) * (y1 + y2) * 2 = 0 := by
      clear ha hb hP hQ qX qZ qS qT eX eZ id hp1 hb1 hq hp id2 hu
      grind
    have hB : s * u * ((y1 - y2) * (y1 - y2)) = 0 := by
      clear ha hb hP hQ qX qZ qS qT eX eZ id hp1 hb1 hq hp id2 hu id3
      have h3 : (y1 + y2) * (y1 + y2) = 0 := (mul_zero_or hA).resolve_right h2
      rw [h3] at h0; grind
    have hsu : s * u ≠ 0 := fun h0 => hn' (by rw [← hu, h0]; grind)
    have y1p : y1 + y2 = 0 := by
      have h3 : (y1 + y2) * (y1 + y2) = 0 := (mul_zero_or hA).resolve_right h2
      exact (mul_zero_or h3).elim _root_.id _root_.id
    have y1m : y1 - y2 = 0 := by
      have h3 : (y1 - y2) * (y1 - y2) = 0 := (mul_zero_or hB).resolve_left hsu
      exact (mul_zero_or h3).elim _root_.id _root_.id
    have hy1 : y1 = 0 := (mul_zero_or (show (2 : R) * y1 = 0 by grind)).resolve_left h2
    have hy2 : y2 = 0 := (mul_zero_or (show (2 : R) * y2 = 0 by grind)).resolve_left h2
    rw [hy1] at hP
    rw [hy2] at hQ
    rw [hy1, hy2] at hb
    have hyb : yb = x1 * x2 := by grind
    have hsq : (1 - yb) * (1 + yb) = 0 := by rw [hyb]; clear hb qX qZ qS qT eX eZ id id2 id3 hA hB; grind
    exact (mul_zero_or hsq).elim hn hn'
  · show _ = 8 * c * ((y1 + y2) * (y1 + y2) + s * u * ((y1 - y2) * (y1 - y2))) * (1 + ry)
    clear ha hb hP hQ qX qZ qS qT eX eZ id hp1 hb1 hq hp id2 hu
    generalize (y1 + y2) * (y1 + y2) = A at *
    generalize s * u * ((y1 - y2) * (y1 - y2)) = B at *
    grind
  · show _ = s * (8 * c * ((y1 + y2) * (y1 + y2) + s * u * ((y1 - y2) * (y1 - y2)))) * (1 - ry)
    clear ha hb hP hQ qX qZ qS qT eX eZ id hp1 hb1 hq hp id2 hu
    generalize (y1 + y2) * (y1 + y2) = A at *
    generalize (y1 - y2) * (y1 - y2) = B at *
    grind
end
end Go.Proofs.YtdmioipdmdmkhaaDoor
