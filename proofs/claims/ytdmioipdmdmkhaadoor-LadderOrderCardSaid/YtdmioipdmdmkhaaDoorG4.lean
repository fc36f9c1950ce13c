/- The ladder tells the coordinate of a point's multiple; so two ladders may be gone in either order. -/
import Derived.Test.YtdmioipdmdmkhaaDoorG3
import Derived.Test.YtdmioipdmdmkhaaDoorP1
set_option linter.unusedVariables false
set_option linter.unusedSectionVars false
set_option linter.unusedSimpArgs false
namespace Go.Proofs.YtdmioipdmdmkhaaDoor
abbrev Fp := Fin pr
abbrev k24 : Fp := toF 121665
theorem toF_val (a : Fp) : toF a.val = a := Fin.ext (Nat.mod_eq_of_lt a.isLt)
theorem Fp.ne_zero {a : Fp} (h : a ≠ 0) : a.val % pr ≠ 0 := fun e => h (Fin.ext (by rw [Nat.mod_eq_of_lt a.isLt] at e; exact e))
theorem nil_pow {e : Nat} (he : e ≠ 0) : powP 0 e = 0 := by
  unfold powP; rw [Nat.zero_pow (Nat.pos_of_ne_zero he), Nat.zero_mod]
instance : Fld Fp where
  fi a := toF (powP a.val invE)
  mul_fi := fun {a} h => by
    have := congrArg toF (inv_mul (Fp.ne_zero h))
    rw [toF_mul, toF_val] at this
    exact this
  one_ne := by decide
  two_ne := by decide
open Fld
theorem fi_zero : fi (0 : Fp) = 0 := congrArg toF (nil_pow (e := invE) (by decide))
theorem fi_toF {z : Nat} (hz : z < pr) : fi (toF z) = toF (powP z invE) := by
  show toF (powP (z % pr) invE) = _
  rw [Nat.mod_eq_of_lt hz]
theorem toF_eq_zero {n : Nat} (hn : n < pr) (h : toF n = 0) : n = 0 := toF_inj hn pr_pos h
section
variable {R : Type} [Lean.Grind.CommRing R] [Fld R]
theorem pn_pa {D : R} {P Q : Pt R} : pn (pa D P Q) = pa D (pn P) (pn Q) := by
  unfold pn pa
  have h1 : dp D ⟨-P.x, P.y⟩ ⟨-Q.x, Q.y⟩ = dp D P Q := by unfold dp; grind
  have h2 : dq D ⟨-P.x, P.y⟩ ⟨-Q.x, Q.y⟩ = dq D P Q := by unfold dq; grind
  rw [h1, h2]
  generalize fi (dp D P Q) = i
  generalize fi (dq D P Q) = j
  congr 1 <;> grind
theorem sub_next {D : R} (hD : ¬ Sq D) {B : Pt R} (hB : On D B) (n : Nat) : pa D (pm' D B n) (pn (pm' D B (n + 1))) = pn B := by
  have hn := on_mul hD hB n
  show pa D (pm' D B n) (pn (pa D (pm' D B n) B)) = pn B
  rw [pn_pa, ← pa_assoc hD hn (on_neg hn) (on_neg hB), pa_neg hD hn, zero_pa]
theorem next_sub {D : R} (hD : ¬ Sq D) {B : Pt R} (hB : On D B) (n : Nat) : pa D (pm' D B (n + 1)) (pn (pm' D B n)) = B := by
  have hn := on_mul hD hB n
  show pa D (pa D (pm' D B n) B) (pn (pm' D B n)) = B
  rw [pa_comm D (pm' D B n) B, pa_assoc hD hB hn (on_neg hn), pa_neg hD hn, pa_zero]
theorem rep_one {s : R} : Rep s (pz : Pt R) 1 0 := by
  have h2 := mul_fi (two_ne (R := R))
  refine ⟨fi 2, fun h0 => one_ne (R := R) (by rw [← h2, h0]; grind), ?_, ?_⟩
  · show (1 : R) = fi 2 * (1 + 1)
    generalize fi (2 : R) = i at *; grind
  · show (0 : R) = s * fi 2 * (1 - 1)
    generalize fi (2 : R) = i; grind
theorem rep_base {s u : R} {B : Pt R} (e1 : s * s = 1) (e2 : s * u * (1 - B.y) = 1 + B.y) (hne : 1 - B.y ≠ 0) : Rep s B u 1 := by
  have hn := mul_fi hne
  refine ⟨s * fi (1 - B.y), fun h0 => one_ne (R := R) ?_, ?_, ?_⟩
  · rw [← hn]
    have e : fi (1 - B.y) = s * (s * fi (1 - B.y)) := by
      clear e2 hne hn h0
      generalize fi (1 - B.y) = i; grind
    have z : fi (1 - B.y) = 0 := by rw [e, h0]; grind
    rw [z]; grind
  · rw [← e2]
    clear hne
    generalize fi (1 - B.y) = i at *
    generalize 1 - B.y = q at *
    grind
  · clear hne
    generalize fi (1 - B.y) = i at *
    generalize 1 - B.y = q at *
    grind
/-- A point's coordinate on the line; of the zero it is 0. -/
def uOf (s : R) (P : Pt R) : R := (1 + P.y) * fi (s * (1 - P.y))
theorem rep_uOf {s X Z : R} {P : Pt R} (fz : fi (0 : R) = 0) (h : Rep s P X Z) : X * fi Z = uOf s P := by
  obtain ⟨l, hl, hx, hz⟩ := h
  unfold uOf
  rw [hx, hz]
  by_cases h : s * (1 - P.y) = 0
  · have h' : s * l * (1 - P.y) = 0 := by rw [show s * l * (1 - P.y) = l * (s * (1 - P.y)) by grind, h]; grind
    rw [h, h', fz]; grind
  · have i1 := mul_fi h
    have h' : s * l * (1 - P.y) ≠ 0 := by rw [show s * l * (1 - P.y) = l * (s * (1 - P.y)) by grind]; exact mul_ne hl h
    have i2 := mul_fi h'
    refine mul_left_inj h' ?_
    generalize fi (s * (1 - P.y)) = i at *
    generalize fi (s * l * (1 - P.y)) = j at *
    have a1 : s * l * (1 - P.y) * (l * (1 + P.y) * j) = l * (1 + P.y) * (s * l * (1 - P.y) * j) := by clear i1 i2 h h' hx hz; grind
    have a2 : s * l * (1 - P.y) * ((1 + P.y) * i) = l * (1 + P.y) * (s * (1 - P.y) * i) := by clear i1 i2 h h' hx hz; grind
    rw [a1, a2, i1, i2]
/-- The coordinate, of a point that is neither zero nor of order two. -/
theorem uOf_num {s : R} {P : Pt R} (e1 : s * s = 1) (h : 1 - P.y ≠ 0) : s * uOf s P * (1 - P.y) = 1 + P.y := by
  have hs : s ≠ 0 := fun h0 => one_ne (R := R) (by rw [← e1, h0]; grind)
  have i1 := mul_fi (mul_ne hs h)
  unfold uOf
  generalize fi (s * (1 - P.y)) = i at *
  have : s * ((1 + P.y) * i) * (1 - P.y) = (1 + P.y) * (s * (1 - P.y) * i) := by clear i1 hs h e1; grind
  rw [this, i1]; grind
theorem pt_one {D : R} (hD : ¬ Sq D) {P : Pt R} (hP : On D P) (h : P.y = 1) : P = pz := by
  obtain ⟨x, y⟩ := P
  unfold On at hP
  simp only at *
  subst h
  have h1 : x * x * (1 - D) = 0 := by grind
  have hne : (1 : R) - D ≠ 0 := fun h0 => hD ⟨1, by grind⟩
  have hx := (mul_zero_or h1).resolve_right hne
  have : x = 0 := (mul_zero_or hx).elim _root_.id _root_.id
  rw [this]; rfl
theorem pt_minus {D : R} (hD : ¬ Sq D) {P : Pt R} (hP : On D P) (h : P.y = -1) : pa D P P = pz := by
  have on2 := on_add hD hP hP
  have hq := dq_ne hD hP hP
  have hy := pa_y hD hP hP
  refine pt_one hD on2 ?_
  obtain ⟨x, y⟩ := P
  unfold On at hP
  unfold dq at *
  simp only at *
  subst h
  generalize (pa D ⟨x, -1⟩ ⟨x, -1⟩).y = r at *
  have h1 : x * x * (1 - D) = 0 := by clear hy on2; grind
  have hne : (1 : R) - D ≠ 0 := fun h0 => hD ⟨1, by grind⟩
  have hx := (mul_zero_or h1).resolve_right hne
  have hx0 : x = 0 := (mul_zero_or hx).elim _root_.id _root_.id
  rw [hx0] at hy
  grind
end
/-- The number of the first k bits. -/
def preN (c : Nat → Nat) : Nat → Nat
  | 0 => 0
  | k + 1 => 2 * preN c k + (ladBit c (254 - k)).toNat
/-- A base for the ladder: a point whose coordinate is u. -/
structure Base (D s : Fp) (B : Pt Fp) (u : Nat) : Prop where
  mdl : Mdl k24 D s
  on : On D B
  num : s * toF u * (1 - B.y) = 1 + B.y
  ne : 1 - B.y ≠ 0
  ne' : 1 + B.y ≠ 0
theorem lad_rep {D s : Fp} {B : Pt Fp} {u : Nat} (b : Base D s B u) (hu : u < pr) (c : Nat → Nat) : ∀ k,
    Rep s (pm' D B (preN c k)) (toF (R0 (ladS c u k)).1) (toF (R0 (ladS c u k)).2) ∧ Rep s (pm' D B (preN c k + 1)) (toF (R1 (ladS c u k)).1) (toF (R1 (ladS c u k)).2)
  | 0 => by
    refine ⟨rep_one, ?_⟩
    rw [show preN c 0 + 1 = 1 from rfl, mul_one_]
    exact rep_base b.mdl.one b.num b.ne
  | k + 1 => by
    obtain ⟨h0, h1⟩ := lad_rep b hu c k
    have hlt := lad_lt c hu k
    have M := b.mdl
    have o0 := on_mul M.nsq b.on (preN c k)
    have o1 := on_mul M.nsq b.on (preN c k + 1)
    have z0 : (R0 (ladS c u k)).2 ≤ pr := by unfold R0; split; exact Nat.le_of_lt hlt.2.2.2; exact Nat.le_of_lt hlt.2.1
    have z1 : (R1 (ladS c u k)).2 ≤ pr := by unfold R1; split; exact Nat.le_of_lt hlt.2.1; exact Nat.le_of_lt hlt.2.2.2
    rw [ladS, preN]
    cases hb : ladBit c (254 - k) with
    | false =>
      have hd := rep_dbl M o0 h0
      have hs := rep_sum M o0 o1 (u := toF u) h0 h1 (by rw [sub_next M.nsq b.on]; exact b.num) (by rw [sub_next M.nsq b.on]; exact b.ne) (by rw [sub_next M.nsq b.on]; exact b.ne')
      rw [← mul_add_ M.nsq b.on] at hd hs
      have e1 : 2 * preN c k + false.toNat = preN c k + preN c k := by show 2 * preN c k + 0 = _; omega
      have e2 : preN c k + preN c k + 1 = preN c k + (preN c k + 1) := by omega
      rw [e1, e2]
      have t1 : R0 (ladSt u false (ladSw (false != (ladS c u k).l) (ladS c u k))) = (dblX (R0 (ladS c u k)).1 (R0 (ladS c u k)).2, dblZ (R0 (ladS c u k)).1 (R0 (ladS c u k)).2) := by
        generalize ladS c u k = S; obtain ⟨a, b, s, t, l⟩ := S; cases l <;> rfl
      have t2 : R1 (ladSt u false (ladSw (false != (ladS c u k).l) (ladS c u k))) = (sumX (R0 (ladS c u k)).1 (R0 (ladS c u k)).2 (R1 (ladS c u k)).1 (R1 (ladS c u k)).2, sumZ u (R0 (ladS c u k)).1 (R0 (ladS c u k)).2 (R1 (ladS c u k)).1 (R1 (ladS c u k)).2) := by
        generalize ladS c u k = S; obtain ⟨a, b, s, t, l⟩ := S; cases l <;> rfl
      rw [t1, t2]
      simp only
      rw [toF_dblX _ _ z0, toF_dblZ _ _ z0, toF_sumX _ _ _ _ z0 z1, toF_sumZ _ _ _ _ _ z0 z1]
      exact ⟨hd, hs⟩
    | true =>
      have hd := rep_dbl M o1 h1
      have hs := rep_sum M o1 o0 (u := toF u) h1 h0 (by rw [next_sub M.nsq b.on]; exact b.num) (by rw [next_sub M.nsq b.on]; exact b.ne) (by rw [next_sub M.nsq b.on]; exact b.ne')
      rw [← mul_add_ M.nsq b.on] at hd hs
      have e1 : 2 * preN c k + true.toNat = preN c k + 1 + preN c k := by show 2 * preN c k + 1 = _; omega
      have e2 : preN c k + 1 + preN c k + 1 = preN c k + 1 + (preN c k + 1) := by omega
      rw [e1, e2]
      have t1 : R1 (ladSt u true (ladSw (true != (ladS c u k).l) (ladS c u k))) = (dblX (R1 (ladS c u k)).1 (R1 (ladS c u k)).2, dblZ (R1 (ladS c u k)).1 (R1 (ladS c u k)).2) := by
        generalize ladS c u k = S; obtain ⟨a, b, s, t, l⟩ := S; cases l <;> rfl
      have t2 : R0 (ladSt u true (ladSw (true != (ladS c u k).l) (ladS c u k))) = (sumX (R1 (ladS c u k)).1 (R1 (ladS c u k)).2 (R0 (ladS c u k)).1 (R0 (ladS c u k)).2, sumZ u (R1 (ladS c u k)).1 (R1 (ladS c u k)).2 (R0 (ladS c u k)).1 (R0 (ladS c u k)).2) := by
        generalize ladS c u k = S; obtain ⟨a, b, s, t, l⟩ := S; cases l <;> rfl
      rw [t1, t2]
      simp only
      rw [toF_dblX _ _ z1, toF_dblZ _ _ z1, toF_sumX _ _ _ _ z1 z0, toF_sumZ _ _ _ _ _ z1 z0]
      exact ⟨hs, hd⟩
theorem raw_uOf {D s : Fp} {B : Pt Fp} {u : Nat} (b : Base D s B u) (hu : u < pr) (c : Nat → Nat) : toF (rawN c u) = uOf s (pm' D B (preN c 255)) := by
  obtain ⟨h, _⟩ := lad_rep b hu c 255
  have hlt := lad_lt c hu 255
  have e1 : (ladSw (ladS c u 255).l (ladS c u 255)).a = (R0 (ladS c u 255)).1 := by unfold ladSw R0; cases (ladS c u 255).l <;> rfl
  have e2 : (ladSw (ladS c u 255).l (ladS c u 255)).b = (R0 (ladS c u 255)).2 := by unfold ladSw R0; cases (ladS c u 255).l <;> rfl
  have z0 : (R0 (ladS c u 255)).2 < pr := by unfold R0; split; exact hlt.2.2.2; exact hlt.2.1
  unfold rawN
  rw [toF_mul, e1, e2, ← fi_toF z0]
  exact rep_uOf fi_zero h
end Go.Proofs.YtdmioipdmdmkhaaDoor
