/- The ladder tells a multiple's coordinate; two ladders in either order; nothing shared is 0. -/
import Derived.Test.YtdmioipdmdmkhaaDoorG3
import Derived.Test.YtdmioipdmdmkhaaDoorP1
set_option linter.unusedVariables false
set_option linter.unusedSectionVars false
set_option linter.unusedSimpArgs false
namespace Go.Proofs.YtdmioipdmdmkhaaDoor
abbrev Fp := Fin pr
abbrev k24 : Fp := toF 121665
theorem toF_val (a : Fp) : toF a.val = a := Fin.ext (Nat.mod_eq_of_lt a.isLt)
theorem Fp.ne_zero {a : Fp} (h : a ≠ 0) : a.val % pr ≠ 0 := fun e => h (Fin.ext (by rw [Nat.mod_eq_of_lt a.isLt] at e; exact e))
theorem nil_pow {e : Nat} (he : e ≠ 0) : powP 0 e = 0 := by
  unfold powP; rw [Nat.zero_pow (Nat.pos_of_ne_zero he), Nat.zero_mod]
instance : Fld Fp where
  fi a := toF (powP a.val invE)
  mul_fi := fun {a} h => by
    have := congrArg toF (inv_mul (Fp.ne_zero h))
    rw [toF_mul, toF_val] at this
    exact this
  one_ne := by decide
  two_ne := by decide
open Fld
theorem fi_zero : fi (0 : Fp) = 0 := congrArg toF (nil_pow (e := invE) (by decide))
theorem fi_toF {z : Nat} (hz : z < pr) : fi (toF z) = toF (powP z invE) := by
  show toF (powP (z % pr) invE) = _
  rw [Nat.mod_eq_of_lt hz]
theorem toF_eq_zero {n : Nat} (hn : n < pr) (h : toF n = 0) : n = 0 := toF_inj hn pr_pos h
section
variable {R : Type} [Lean.Grind.CommRing R] [Fld R]
theorem pn_pa {D : R} {P Q : Pt R} : pn (pa D P Q) = pa D (pn P) (pn Q) := by
  unfold pn pa
  have h1 : dp D ⟨-P.x, P.y⟩ ⟨-Q.x, Q.y⟩ = dp D P Q := by unfold dp; grind
  have h2 : dq D ⟨-P.x, P.y⟩ ⟨-Q.x, Q.y⟩ = dq D P Q := by unfold dq; grind
  rw [h1, h2]
  generalize fi (dp D P Q) = i
  generalize fi (dq D P Q) = j
  congr 1 <;> grind
theorem sub_next {D : R} (hD : ¬ Sq D) {B : Pt R} (hB : On D B) (n : Nat) : pa D (pm' D B n) (pn (pm' D B (n + 1))) = pn B := by
  have hn := on_mul hD hB n
  show pa D (pm' D B n) (pn (pa D (pm' D B n) B)) = pn B
  rw [pn_pa, ← pa_assoc hD hn (on_neg hn) (on_neg hB), pa_neg hD hn, zero_pa]
theorem next_sub {D : R} (hD : ¬ Sq D) {B : Pt R} (hB : On D B) (n : Nat) : pa D (pm' D B (n + 1)) (pn (pm' D B n)) = B := by
  have hn := on_mul hD hB n
  show pa D (pa D (pm' D B n) B) (pn (pm' D B n)) = B
  rw [pa_comm D (pm' D B n) B, pa_assoc hD hB hn (on_neg hn), pa_neg hD hn, pa_zero]
theorem rep_one {s : R} : Rep s (pz : Pt R) 1 0 := by
  have h2 := mul_fi (two_ne (R := R))
  refine ⟨fi 2, fun h0 => one_ne (R := R) (by rw [← h2, h0]; grind), ?_, ?_⟩
  · show (1 : R) = fi 2 * (1 + 1)
    generalize fi (2 : R) = i at *; grind
  · show (0 : R) = s * fi 2 * (1 - 1)
    generalize fi (2 : R) = i; grind
theorem rep_base {s u : R} {B : Pt R} (e1 : s * s = 1) (e2 : s * u * (1 - B.y) = 1 + B.y) (hne : 1 - B.y ≠ 0) : Rep s B u 1 := by
  have hn := mul_fi hne
  refine ⟨s * fi (1 - B.y), fun h0 => one_ne (R := R) ?_, ?_, ?_⟩
  · rw [← hn]
    have e : fi (1 - B.y) = s * (s * fi (1 - B.y)) := by
      clear e2 hne hn h0
      generalize fi (1 - B.y) = i; grind
    have z : fi (1 - B.y) = 0 := by rw [e, h0]; grind
    rw [z]; grind
  · rw [← e2]
    clear hne
    generalize fi (1 - B.y) = i at *
    generalize 1 - B.y = q at *
    grind
  · clear hne
    generalize fi (1 - B.y) = i at *
    generalize 1 - B.y = q at *
    grind
/-- A point's coordinate on the line; of the zero it is 0. -/
def uOf (s : R) (P : Pt R) : R := (1 + P.y) * fi (s * (1 - P.y))
theorem rep_uOf {s X Z : R} {P : Pt R} (fz : fi (0 : R) = 0) (h : Rep s P X Z) : X * fi Z = uOf s P := by
  obtain ⟨l, hl, hx, hz⟩ := h
  unfold uOf
  rw [hx, hz]
  by_cases h : s * (1 - P.y) = 0
  · have h' : s * l * (1 - P.y) = 0 := by rw [show s * l * (1 - P.y) = l * (s * (1 - P.y)) by grind, h]; grind
    rw [h, h', fz]; grind
  · have i1 := mul_fi h
    have h' : s * l * (1 - P.y) ≠ 0 := by rw [show s * l * (1 - P.y) = l * (s * (1 - P.y)) by grind]; exact mul_ne hl h
    have i2 := mul_fi h'
    refine mul_left_inj h' ?_
    generalize fi (s * (1 - P.y)) = i at *
    generalize fi (s * l * (1 - P.y)) = j at *
    have a1 : s * l * (1 - P.y) * (l * (1 + P.y) * j) = l * (1 + P.y) * (s * l * (1 - P.y) * j) := by clear i1 i2 h h' hx hz; grind
    have a2 : s * l * (1 - P.y) * ((1 + P.y) * i) = l * (1 + P.y) * (s * (1 - P.y) * i) := by clear i1 i2 h h' hx hz; grind
    rw [a1, a2, i1, i2]
/-- The coordinate, of a point that is neither zero nor of order two. -/
theorem uOf_num {s : R} {P : Pt R} (e1 : s * s = 1) (h : 1 - P.y ≠ 0) : s * uOf s P * (1 - P.y) = 1 + P.y := by
  have hs : s ≠ 0 := fun h0 => one_ne (R := R) (by rw [← e1, h0]; grind)
  have i1 := mul_fi (mul_ne hs h)
  unfold uOf
  generalize fi (s * (1 - P.y)) = i at *
  have : s * ((1 + P.y) * i) * (1 - P.y) = (1 + P.y) * (s * (1 - P.y) * i) := by clear i1 hs h e1; grind
  rw [this, i1]; grind
theorem pt_one {D : R} (hD : ¬ Sq D) {P : Pt R} (hP : On D P) (h : P.y = 1) : P = pz := by
  obtain ⟨x, y⟩ := P
  unfold On at hP
  simp only at *
  subst h
  have h1 : x * x * (1 - D) = 0 := by grind
  have hne : (1 : R) - D ≠ 0 := fun h0 => hD ⟨1, by grind⟩
  have hx := (mul_zero_or h1).resolve_right hne
  have : x = 0 := (mul_zero_or hx).elim _root_.id _root_.id
  rw [this]; rfl
theorem pt_minus {D : R} (hD : ¬ Sq D) {P : Pt R} (hP : On D P) (h : P.y = -1) : pa D P P = pz := by
  have on2 := on_add hD hP hP
  have hq := dq_ne hD hP hP
  have hy := pa_y hD hP hP
  refine pt_one hD on2 ?_
  obtain ⟨x, y⟩ := P
  unfold On at hP
  unfold dq at *
  simp only at *
  subst h
  generalize (pa D ⟨x, -1⟩ ⟨x, -1⟩).y = r at *
  have h1 : x * x * (1 - D) = 0 := by clear hy on2; grind
  have hne : (1 : R) - D ≠ 0 := fun h0 => hD ⟨1, by grind⟩
  have hx := (mul_zero_or h1).resolve_right hne
  have hx0 : x = 0 := (mul_zero_or hx).elim _root_.id _root_.id
  rw [hx0] at hy
  grind
end
/-- The number of the first k bits. -/
def preN (c : Nat → Nat) : Nat → Nat
  | 0 => 0
  | k + 1 => 2 * preN c k + (ladBit c (254 - k)).toNat
/-- A base for the ladder: a point whose coordinate is u. -/
structure Base (D s : Fp) (B : Pt Fp) (u : Nat) : Prop where
  mdl : Mdl k24 D s
  on : On D B
  num : s * toF u * (1 - B.y) = 1 + B.y
  ne : 1 - B.y ≠ 0
  ne' : 1 + B.y ≠ 0
theorem lad_rep {D s : Fp} {B : Pt Fp} {u : Nat} (b : Base D s B u) (hu : u < pr) (c : Nat → Nat) : ∀ k,
    Rep s (pm' D B (preN c k)) (toF (R0 (ladS c u k)).1) (toF (R0 (ladS c u k)).2) ∧ Rep s (pm' D B (preN c k + 1)) (toF (R1 (ladS c u k)).1) (toF (R1 (ladS c u k)).2)
  | 0 => by
    refine ⟨rep_one, ?_⟩
    rw [show preN c 0 + 1 = 1 from rfl, mul_one_]
    exact rep_base b.mdl.one b.num b.ne
  | k + 1 => by
    obtain ⟨h0, h1⟩ := lad_rep b hu c k
    have hlt := lad_lt c hu k
    have M := b.mdl
    have o0 := on_mul M.nsq b.on (preN c k)
    have o1 := on_mul M.nsq b.on (preN c k + 1)
    have z0 : (R0 (ladS c u k)).2 ≤ pr := by unfold R0; split; exact Nat.le_of_lt hlt.2.2.2; exact Nat.le_of_lt hlt.2.1
    have z1 : (R1 (ladS c u k)).2 ≤ pr := by unfold R1; split; exact Nat.le_of_lt hlt.2.1; exact Nat.le_of_lt hlt.2.2.2
    rw [ladS, preN]
    cases hb : ladBit c (254 - k) with
    | false =>
      have hd := rep_dbl M o0 h0
      have hs := rep_sum M o0 o1 (u := toF u) h0 h1 (by rw [sub_next M.nsq b.on]; exact b.num) (by rw [sub_next M.nsq b.on]; exact b.ne) (by rw [sub_next M.nsq b.on]; exact b.ne')
      rw [← mul_add_ M.nsq b.on] at hd hs
      have e1 : 2 * preN c k + false.toNat = preN c k + preN c k := by show 2 * preN c k + 0 = _; omega
      have e2 : preN c k + preN c k + 1 = preN c k + (preN c k + 1) := by omega
      rw [e1, e2]
      have t1 : R0 (ladSt u false (ladSw (false != (ladS c u k).l) (ladS c u k))) = (dblX (R0 (ladS c u k)).1 (R0 (ladS c u k)).2, dblZ (R0 (ladS c u k)).1 (R0 (ladS c u k)).2) := by
        generalize ladS c u k = S; obtain ⟨a, b, s, t, l⟩ := S; cases l <;> rfl
      have t2 : R1 (ladSt u false (ladSw (false != (ladS c u k).l) (ladS c u k))) = (sumX (R0 (ladS c u k)).1 (R0 (ladS c u k)).2 (R1 (ladS c u k)).1 (R1 (ladS c u k)).2, sumZ u (R0 (ladS c u k)).1 (R0 (ladS c u k)).2 (R1 (ladS c u k)).1 (R1 (ladS c u k)).2) := by
        generalize ladS c u k = S; obtain ⟨a, b, s, t, l⟩ := S; cases l <;> rfl
      rw [t1, t2]
      simp only
      rw [toF_dblX _ _ z0, toF_dblZ _ _ z0, toF_sumX _ _ _ _ z0 z1, toF_sumZ _ _ _ _ _ z0 z1]
      exact ⟨hd, hs⟩
    | true =>
      have hd := rep_dbl M o1 h1
      have hs := rep_sum M o1 o0 (u := toF u) h1 h0 (by rw [next_sub M.nsq b.on]; exact b.num) (by rw [next_sub M.nsq b.on]; exact b.ne) (by rw [next_sub M.nsq b.on]; exact b.ne')
      rw [← mul_add_ M.nsq b.on] at hd hs
      have e1 : 2 * preN c k + true.toNat = preN c k + 1 + preN c k := by show 2 * preN c k + 1 = _; omega
      have e2 : preN c k + 1 + preN c k + 1 = preN c k + 1 + (preN c k + 1) := by omega
      rw [e1, e2]
      have t1 : R1 (ladSt u true (ladSw (true != (ladS c u k).l) (ladS c u k))) = (dblX (R1 (ladS c u k)).1 (R1 (ladS c u k)).2, dblZ (R1 (ladS c u k)).1 (R1 (ladS c u k)).2) := by
        generalize ladS c u k = S; obtain ⟨a, b, s, t, l⟩ := S; cases l <;> rfl
      have t2 : R0 (ladSt u true (ladSw (true != (ladS c u k).l) (ladS c u k))) = (sumX (R1 (ladS c u k)).1 (R1 (ladS c u k)).2 (R0 (ladS c u k)).1 (R0 (ladS c u k)).2, sumZ u (R1 (ladS c u k)).1 (R1 (ladS c u k)).2 (R0 (ladS c u k)).1 (R0 (ladS c u k)).2) := by
        generalize ladS c u k = S; obtain ⟨a, b, s, t, l⟩ := S; cases l <;> rfl
      rw [t1, t2]
      simp only
      rw [toF_dblX _ _ z1, toF_dblZ _ _ z1, toF_sumX _ _ _ _ z1 z0, toF_sumZ _ _ _ _ _ z1 z0]
      exact ⟨hs, hd⟩
theorem raw_uOf {D s : Fp} {B : Pt Fp} {u : Nat} (b : Base D s B u) (hu : u < pr) (c : Nat → Nat) : toF (rawN c u) = uOf s (pm' D B (preN c 255)) := by
  obtain ⟨h, _⟩ := lad_rep b hu c 255
  have hlt := lad_lt c hu 255
  have e1 : (ladSw (ladS c u 255).l (ladS c u 255)).a = (R0 (ladS c u 255)).1 := by unfold ladSw R0; cases (ladS c u 255).l <;> rfl
  have e2 : (ladSw (ladS c u 255).l (ladS c u 255)).b = (R0 (ladS c u 255)).2 := by unfold ladSw R0; cases (ladS c u 255).l <;> rfl
  have z0 : (R0 (ladS c u 255)).2 < pr := by unfold R0; split; exact hlt.2.2.2; exact hlt.2.1
  unfold rawN
  rw [toF_mul, e1, e2, ← fi_toF z0]
  exact rep_uOf fi_zero h
/-! ### Squares -/
def eH : Nat := 28948022309329048855892746252171976963317496166410141009864396001978282409974
def eQ : Nat := 14474011154664524427946373126085988481658748083205070504932198000989141204987
def eE : Nat := 7237005577332262213973186563042994240829374041602535252466099000494570602494
theorem eH_q : eH = 2 * eQ := by decide +kernel
theorem eE_q : 2 * eE = eQ + 1 := by decide +kernel
theorem eH_p : 2 * eH = pr - 1 := by decide +kernel
def pw (a : Nat) (e : Nat) : Fp := toF (powP a e)
theorem pw_pm (a e : Nat) (he : e < 2 ^ 255) : pw a e = toF (pm pr a 255 e) := by
  unfold pw powP; rw [pm_eq (by decide) 255 e he]
theorem pw_add (a m n : Nat) : pw a (m + n) = pw a m * pw a n := by
  unfold pw; rw [← toF_mul, pow_mul_pow]
theorem pw_mul (a b e : Nat) : pw (a * b % pr) e = pw a e * pw b e := by
  unfold pw
  rw [← toF_mul]
  congr 1
  unfold powP
  rw [← Nat.pow_mod, Nat.mul_pow, Nat.mul_mod]
theorem pw_one {a : Nat} (ha : a % pr ≠ 0) : pw a (pr - 1) = 1 := by
  have h : ¬ pr ∣ a := fun hd => ha (Nat.mod_eq_zero_of_dvd hd)
  have := fermat prm_pr h
  unfold pw powP
  rw [this]; rfl
theorem unit_sq {R : Type} [Lean.Grind.CommRing R] [Fld R] {t : R} (h : t * t = 1) : t = 1 ∨ t = -1 := by
  have : (t - 1) * (t + 1) = 0 := by grind
  rcases mul_zero_or this with h | h
  · left; grind
  · right; grind
theorem pw_half {a : Nat} (ha : a % pr ≠ 0) : pw a eH = 1 ∨ pw a eH = -1 := by
  refine unit_sq ?_
  rw [← pw_add, show eH + eH = pr - 1 by rw [← eH_p, Nat.two_mul], pw_one ha]
theorem pw_two : pw 2 eQ * pw 2 eQ = -1 := by
  rw [← pw_add, ← Nat.two_mul, ← eH_q, pw_pm 2 eH (by decide +kernel)]
  decide +kernel
theorem sq_of_half {a : Nat} (ha : a < pr) (h : pw a eH = 1) : Sq (toF a) := by
  have h1 : pw a eQ * pw a eQ = 1 := by rw [← pw_add, ← Nat.two_mul, ← eH_q, h]
  have h2 : pw a eE * pw a eE = pw a eQ * toF a := by
    rw [← pw_add, ← Nat.two_mul, eE_q, pw_add]
    congr 1
    unfold pw; rw [pow_one a ha]
  have h3 := pw_two
  rcases unit_sq h1 with e | e
  · exact ⟨pw a eE, by rw [h2, e]; generalize toF a = x; grind⟩
  · refine ⟨pw a eE * pw 2 eQ, ?_⟩
    rw [e] at h2
    generalize toF a = x at *
    generalize pw a eE = y at *
    generalize pw 2 eQ = z at *
    clear h h1 e ha
    have : y * z * (y * z) = (y * y) * (z * z) := by
      have : ∀ {R : Type} [Lean.Grind.CommRing R] (y z : R), y * z * (y * z) = (y * y) * (z * z) := by intro R _ y z; grind
      exact this y z
    rw [this, h2, h3]
    have : ∀ {R : Type} [Lean.Grind.CommRing R] (x : R), -1 * x * -1 = x := by intro R _ x; grind
    exact this x
def nN : Nat := 14802493890
theorem nN_half : pw nN eH = -1 := by
  rw [pw_pm nN eH (by decide +kernel)]
  decide +kernel
theorem half_of_sq {a : Nat} (ha : a % pr ≠ 0) (h : Sq (toF a)) : pw a eH = 1 := by
  obtain ⟨s, hs⟩ := h
  have e : toF (s.val * s.val % pr) = toF a := by rw [toF_mul, toF_val, hs]
  have e2 : s.val * s.val % pr = a % pr := congrArg Fin.val e |>.trans rfl |> fun h => by
    have h' : s.val * s.val % pr % pr = a % pr := h
    rwa [Nat.mod_mod] at h'
  have e3 : pw a eH = pw (s.val * s.val % pr) eH := by
    unfold pw powP
    rw [e2, ← Nat.pow_mod]
  rw [e3, pw_mul]
  have hs0 : s.val % pr ≠ 0 := fun h0 => ha (by
    rw [← e2, Nat.mul_mod, h0, Nat.zero_mul, Nat.zero_mod])
  rw [← pw_add, show eH + eH = pr - 1 by rw [← eH_p, Nat.two_mul], pw_one hs0]
theorem one_ne_minus : (1 : Fp) ≠ -1 := by decide +kernel
theorem nN_nsq : ¬ Sq (toF nN) := fun h => by
  have := half_of_sq (by decide) h
  rw [nN_half] at this
  exact one_ne_minus this.symm
/-- One of a and N a is a square. -/
theorem sq_or (x : Fp) (hx : x ≠ 0) : Sq x ∨ Sq (toF nN * x) := by
  have hv : x.val % pr ≠ 0 := Fp.ne_zero hx
  rcases pw_half hv with h | h
  · left
    have := sq_of_half x.isLt h
    rwa [toF_val] at this
  · right
    have hlt : nN * x.val % pr < pr := Nat.mod_lt _ pr_pos
    have : pw (nN * x.val % pr) eH = 1 := by
      rw [pw_mul, nN_half, h]
      have : ∀ {R : Type} [Lean.Grind.CommRing R], (-1 : R) * -1 = 1 := by intro R _; grind
      exact this
    have := sq_of_half hlt this
    rwa [toF_mul, toF_val] at this
theorem nN_k : toF nN = k24 * (k24 + 1) := by decide +kernel
/-! ### The points -/
section
variable {R : Type} [Lean.Grind.CommRing R] [Fld R]
theorem sq_div {a b : R} (hb : b ≠ 0) (h : Sq (a * b * b)) : Sq a := by
  obtain ⟨s, hs⟩ := h
  have i := mul_fi hb
  refine ⟨s * fi b, ?_⟩
  generalize fi b = j at *
  have : s * j * (s * j) = (s * s) * (j * j) := by grind
  rw [this, hs]
  have : a * b * b * (j * j) = a * ((b * j) * (b * j)) := by grind
  rw [this, i]; grind
/-- The curve's parameter, if it is a square so is k (k + 1). -/
theorem nsq_line {k : R} (hn : ¬ Sq (k * (k + 1))) (h1 : k + 1 ≠ 0) : ¬ Sq (k * fi (k + 1)) := fun ⟨s, hs⟩ => hn ⟨s * (k + 1), by
  have i := mul_fi h1
  generalize fi (k + 1) = j at *
  have : s * (k + 1) * (s * (k + 1)) = (s * s) * ((k + 1) * (k + 1)) := by grind
  rw [this, hs]
  have : k * j * ((k + 1) * (k + 1)) = k * (k + 1) * ((k + 1) * j) := by grind
  rw [this, i]; grind⟩
theorem nsq_twist {k : R} (hn : ¬ Sq (k * (k + 1))) (h1 : k ≠ 0) : ¬ Sq ((k + 1) * fi k) := fun ⟨s, hs⟩ => hn ⟨s * k, by
  have i := mul_fi h1
  generalize fi k = j at *
  have : s * k * (s * k) = (s * s) * (k * k) := by grind
  rw [this, hs]
  have : (k + 1) * j * (k * k) = k * (k + 1) * (k * j) := by grind
  rw [this, i]; grind⟩
/-- The cubic of the curve. -/
abbrev cub (k u : R) : R := u * (u * u + (4 * k + 2) * u + 1)
theorem cub_ne {k u : R} (hn : ¬ Sq (k * (k + 1))) (hu : u ≠ 0) : cub k u ≠ 0 := fun h0 => by
  have h1 := (mul_zero_or h0).resolve_left hu
  have h2 : (2 : R) ≠ 0 := two_ne
  have i := mul_fi h2
  -- (2u + A)^2 = 16 k (k + 1)
  refine hn (sq_div (a := k * (k + 1)) (b := 2 * 2) (mul_ne h2 h2) ⟨2 * u + (4 * k + 2), ?_⟩)
  clear i h0
  grind
theorem fin_line {k u D X Y : R} (hD : D * (k + 1) = k) (hX : X * (u * u + (4 * k + 2) * u + 1) = 4 * (k + 1) * u) (hY : Y * ((u + 1) * (u + 1)) = (u - 1) * (u - 1)) (n1 : k + 1 ≠ 0) (n2 : u + 1 ≠ 0) (n3 : u * u + (4 * k + 2) * u + 1 ≠ 0) : X + Y = 1 + D * X * Y := by
  refine mul_left_inj (mul_ne n1 (mul_ne (mul_ne n2 n2) n3)) ?_
  have l : (k + 1) * ((u + 1) * (u + 1) * (u * u + (4 * k + 2) * u + 1)) * (X + Y) = (k + 1) * ((u + 1) * (u + 1)) * (X * (u * u + (4 * k + 2) * u + 1)) + (k + 1) * (u * u + (4 * k + 2) * u + 1) * (Y * ((u + 1) * (u + 1))) := by clear hD hX hY n1 n2 n3; grind
  have r : (k + 1) * ((u + 1) * (u + 1) * (u * u + (4 * k + 2) * u + 1)) * (1 + D * X * Y) = (k + 1) * ((u + 1) * (u + 1) * (u * u + (4 * k + 2) * u + 1)) + (D * (k + 1)) * (X * (u * u + (4 * k + 2) * u + 1)) * (Y * ((u + 1) * (u + 1))) := by clear hD hX hY n1 n2 n3; grind
  rw [l, r, hX, hY, hD]
  clear l r hD hX hY n1 n2 n3; grind
theorem fin_twist {k u D X Y : R} (hD : D * k = k + 1) (hX : X * (u * u + (4 * k + 2) * u + 1) = 4 * k * u) (hY : Y * ((u - 1) * (u - 1)) = (u + 1) * (u + 1)) (n1 : k ≠ 0) (n2 : u - 1 ≠ 0) (n3 : u * u + (4 * k + 2) * u + 1 ≠ 0) : X + Y = 1 + D * X * Y := by
  refine mul_left_inj (mul_ne n1 (mul_ne (mul_ne n2 n2) n3)) ?_
  have l : k * ((u - 1) * (u - 1) * (u * u + (4 * k + 2) * u + 1)) * (X + Y) = k * ((u - 1) * (u - 1)) * (X * (u * u + (4 * k + 2) * u + 1)) + k * (u * u + (4 * k + 2) * u + 1) * (Y * ((u - 1) * (u - 1))) := by clear hD hX hY n1 n2 n3; grind
  have r : k * ((u - 1) * (u - 1) * (u * u + (4 * k + 2) * u + 1)) * (1 + D * X * Y) = k * ((u - 1) * (u - 1) * (u * u + (4 * k + 2) * u + 1)) + (D * k) * (X * (u * u + (4 * k + 2) * u + 1)) * (Y * ((u - 1) * (u - 1))) := by clear hD hX hY n1 n2 n3; grind
  rw [l, r, hX, hY, hD]
  clear l r hD hX hY n1 n2 n3; grind
theorem fi_sq {a j : R} (h : a * j = 1) (b : R) : b * j * (b * j) * (a * a) = b * b := by
  have : b * j * (b * j) * (a * a) = b * b * ((a * j) * (a * j)) := by clear h; grind
  rw [this, h]; grind
/-- On the curve. -/
theorem line_pt {k u w : R} (hn : ¬ Sq (k * (k + 1))) (hk : k ≠ 0) (hk1 : k + 1 ≠ 0) (hu : u ≠ 0) (hw : w * w = (k + 1) * cub k u) :
    ∃ B : Pt R, On (k * fi (k + 1)) B ∧ 1 * u * (1 - B.y) = 1 + B.y ∧ 1 - B.y ≠ 0 ∧ 1 + B.y ≠ 0 := by
  have h2 : (2 : R) ≠ 0 := two_ne
  have hw0 : w ≠ 0 := fun h0 => mul_ne hk1 (cub_ne hn hu) (by rw [← hw, h0]; grind)
  have hu1 : u + 1 ≠ 0 := fun h0 => by
    have e : u = -1 := by grind
    refine hn (sq_div (a := k * (k + 1)) (b := 2) h2 ⟨w, ?_⟩)
    rw [hw, e]; clear hw hw0 h0 e; grind
  have i1 := mul_fi hw0
  have i2 := mul_fi hu1
  have i3 := mul_fi hk1
  refine ⟨⟨2 * (k + 1) * u * fi w, (u - 1) * fi (u + 1)⟩, ?_, ?_, ?_, ?_⟩
  · have n3 : u * u + (4 * k + 2) * u + 1 ≠ 0 := fun h0 => cub_ne hn hu (by show u * (u * u + (4 * k + 2) * u + 1) = 0; rw [h0]; grind)
    have hX : 2 * (k + 1) * u * fi w * (2 * (k + 1) * u * fi w) * (u * u + (4 * k + 2) * u + 1) = 4 * (k + 1) * u := by
      refine mul_left_inj (mul_ne hk1 hu) ?_
      have e := fi_sq i1 (2 * (k + 1) * u)
      rw [hw] at e
      generalize 2 * (k + 1) * u * fi w * (2 * (k + 1) * u * fi w) = X at *
      have : (k + 1) * u * (X * (u * u + (4 * k + 2) * u + 1)) = X * ((k + 1) * cub k u) := by clear e hw i1 i2 i3 hw0 n3; grind
      rw [this, e]
      clear e hw i1 i2 i3 hw0 n3 this; grind
    have hY := fi_sq i2 (u - 1)
    have hD : k * fi (k + 1) * (k + 1) = k := by
      generalize fi (k + 1) = j at *
      have : k * j * (k + 1) = k * ((k + 1) * j) := by clear hw i1 i2 i3 hX hY; grind
      rw [this, i3]; grind
    have f := fin_line hD hX hY hk1 hu1 n3
    show 2 * (k + 1) * u * fi w * (2 * (k + 1) * u * fi w) + (u - 1) * fi (u + 1) * ((u - 1) * fi (u + 1)) = 1 + k * fi (k + 1) * (2 * (k + 1) * u * fi w) * (2 * (k + 1) * u * fi w) * ((u - 1) * fi (u + 1)) * ((u - 1) * fi (u + 1))
    rw [f]
    clear f hD hY hX i1 i2 i3 hw hw0
    generalize 2 * (k + 1) * u * fi w = a
    generalize (u - 1) * fi (u + 1) = b
    generalize k * fi (k + 1) = d
    grind
  · show 1 * u * (1 - (u - 1) * fi (u + 1)) = 1 + (u - 1) * fi (u + 1)
    generalize fi (u + 1) = j at *
    clear i1 i3 hw; grind
  · show 1 - (u - 1) * fi (u + 1) ≠ 0
    intro h0
    refine h2 ?_
    generalize fi (u + 1) = j at *
    clear i1 i3 hw; grind
  · show 1 + (u - 1) * fi (u + 1) ≠ 0
    intro h0
    refine mul_ne h2 hu ?_
    generalize fi (u + 1) = j at *
    clear i1 i3 hw; grind
/-- On the twist. -/
theorem twist_pt {k u w : R} (hn : ¬ Sq (k * (k + 1))) (hk : k ≠ 0) (hk1 : k + 1 ≠ 0) (hu : u ≠ 0) (hw : w * w = k * cub k u) :
    ∃ B : Pt R, On ((k + 1) * fi k) B ∧ -1 * u * (1 - B.y) = 1 + B.y ∧ 1 - B.y ≠ 0 ∧ 1 + B.y ≠ 0 := by
  have h2 : (2 : R) ≠ 0 := two_ne
  have hw0 : w ≠ 0 := fun h0 => mul_ne hk (cub_ne hn hu) (by rw [← hw, h0]; grind)
  have hu1 : u - 1 ≠ 0 := fun h0 => by
    have e : u = 1 := by grind
    refine hn (sq_div (a := k * (k + 1)) (b := 2) h2 ⟨w, ?_⟩)
    rw [hw, e]; clear hw hw0 h0 e; grind
  have i1 := mul_fi hw0
  have i2 := mul_fi hu1
  have i3 := mul_fi hk
  refine ⟨⟨2 * k * u * fi w, (u + 1) * fi (u - 1)⟩, ?_, ?_, ?_, ?_⟩
  · have n3 : u * u + (4 * k + 2) * u + 1 ≠ 0 := fun h0 => cub_ne hn hu (by show u * (u * u + (4 * k + 2) * u + 1) = 0; rw [h0]; grind)
    have hX : 2 * k * u * fi w * (2 * k * u * fi w) * (u * u + (4 * k + 2) * u + 1) = 4 * k * u := by
      refine mul_left_inj (mul_ne hk hu) ?_
      have e := fi_sq i1 (2 * k * u)
      rw [hw] at e
      generalize 2 * k * u * fi w * (2 * k * u * fi w) = X at *
      have : k * u * (X * (u * u + (4 * k + 2) * u + 1)) = X * (k * cub k u) := by clear e hw i1 i2 i3 hw0 n3; grind
      rw [this, e]
      clear e hw i1 i2 i3 hw0 n3 this; grind
    have hY := fi_sq i2 (u + 1)
    have hD : (k + 1) * fi k * k = k + 1 := by
      generalize fi k = j at *
      have : (k + 1) * j * k = (k + 1) * (k * j) := by clear hw i1 i2 i3 hX hY; grind
      rw [this, i3]; grind
    have f := fin_twist hD hX hY hk hu1 n3
    show 2 * k * u * fi w * (2 * k * u * fi w) + (u + 1) * fi (u - 1) * ((u + 1) * fi (u - 1)) = 1 + (k + 1) * fi k * (2 * k * u * fi w) * (2 * k * u * fi w) * ((u + 1) * fi (u - 1)) * ((u + 1) * fi (u - 1))
    rw [f]
    clear f hD hY hX i1 i2 i3 hw hw0
    generalize 2 * k * u * fi w = a
    generalize (u + 1) * fi (u - 1) = b
    generalize (k + 1) * fi k = d
    grind
  · show -1 * u * (1 - (u + 1) * fi (u - 1)) = 1 + (u + 1) * fi (u - 1)
    generalize fi (u - 1) = j at *
    clear i1 i3 hw; grind
  · show 1 - (u + 1) * fi (u - 1) ≠ 0
    intro h0
    refine h2 ?_
    generalize fi (u - 1) = j at *
    clear i1 i3 hw; grind
  · show 1 + (u + 1) * fi (u - 1) ≠ 0
    intro h0
    refine mul_ne h2 hu ?_
    generalize fi (u - 1) = j at *
    clear i1 i3 hw; grind
end
theorem k24_ne : k24 ≠ 0 := by decide +kernel
theorem k24_ne' : k24 + 1 ≠ 0 := by decide +kernel
theorem k24_nsq : ¬ Sq (k24 * (k24 + 1)) := by rw [← nN_k]; exact nN_nsq
theorem k_fi {k : Fp} (h : k ≠ 0) (a : Fp) : a * fi k * k = a := by
  have i := mul_fi h
  have : ∀ {R : Type} [Lean.Grind.CommRing R] (a j k : R), k * j = 1 → a * j * k = a := by intro R _ a j k h; grind
  exact this a (fi k) k i
/-- Every number but 0 is the coordinate of a base. -/
theorem base_of {u : Nat} (hu : u < pr) (h0 : u ≠ 0) : ∃ D s B, Base D s B u := by
  have hv : toF u ≠ 0 := fun h => h0 (toF_eq_zero hu h)
  have hc := cub_ne k24_nsq hv
  rcases sq_or ((k24 + 1) * cub k24 (toF u)) (mul_ne k24_ne' hc) with ⟨w, hw⟩ | h
  · obtain ⟨B, h1, h2, h3, h4⟩ := line_pt k24_nsq k24_ne k24_ne' hv hw
    exact ⟨_, 1, B, ⟨nsq_line k24_nsq k24_ne', by decide, k24_ne, k24_ne', .inl ⟨rfl, k_fi k24_ne' _⟩⟩, h1, h2, h3, h4⟩
  · rw [nN_k] at h
    have h' : Sq (k24 * cub k24 (toF u)) := sq_div (b := k24 + 1) k24_ne' (by
      have e : k24 * cub k24 (toF u) * (k24 + 1) * (k24 + 1) = k24 * (k24 + 1) * ((k24 + 1) * cub k24 (toF u)) := by
        have : ∀ {R : Type} [Lean.Grind.CommRing R] (a b c : R), a * b * c * c = a * c * (c * b) := by intro R _ a b c; grind
        exact this _ _ _
      rw [e]; exact h)
    obtain ⟨w, hw⟩ := h'
    obtain ⟨B, h1, h2, h3, h4⟩ := twist_pt k24_nsq k24_ne k24_ne' hv hw
    exact ⟨_, -1, B, ⟨nsq_twist k24_nsq k24_ne, by decide +kernel, k24_ne, k24_ne', .inr ⟨rfl, k_fi k24_ne _⟩⟩, h1, h2, h3, h4⟩
/-! ### Two ladders -/
theorem uOf_of_one {s : Fp} {P : Pt Fp} (h : P.y = 1) : uOf s P = 0 := by
  unfold uOf
  rw [h, show s * (1 - 1 : Fp) = 0 by
    have : ∀ {R : Type} [Lean.Grind.CommRing R] (s : R), s * (1 - 1) = 0 := by intro R _ s; grind
    exact this s, fi_zero]
  have : ∀ {R : Type} [Lean.Grind.CommRing R] (s : R), s * 0 = 0 := by intro R _ s; grind
  exact this _
theorem uOf_of_minus {s : Fp} {P : Pt Fp} (h : P.y = -1) : uOf s P = 0 := by
  unfold uOf
  rw [h]
  have : ∀ {R : Type} [Lean.Grind.CommRing R] (s : R), (1 + -1) * s = 0 := by intro R _ s; grind
  exact this _
theorem sub_zero_iff {a : Fp} (h : 1 - a = 0) : a = 1 := by
  have : ∀ {R : Type} [Lean.Grind.CommRing R] (a : R), 1 - a = 0 → a = 1 := by intro R _ a h; grind
  exact this a h
theorem add_zero_iff {a : Fp} (h : 1 + a = 0) : a = -1 := by
  have : ∀ {R : Type} [Lean.Grind.CommRing R] (a : R), 1 + a = 0 → a = -1 := by intro R _ a h; grind
  exact this a h
theorem raw_comp {D s : Fp} {B : Pt Fp} {u : Nat} (b : Base D s B u) (hu : u < pr) (c1 c2 : Nat → Nat) {h1 : Nat} (ev : preN c1 255 = 2 * h1) (hz : rawN c1 0 = 0) : toF (rawN c1 (rawN c2 u)) = uOf s (pm' D B (preN c2 255 * preN c1 255)) := by
  have hv := raw_uOf b hu c2
  have hvl := rawN_lt c2 u
  have hn := b.mdl.nsq
  have o2 := on_mul hn b.on (preN c2 255)
  rw [← mul_mul_ hn b.on]
  generalize hP : pm' D B (preN c2 255) = P at *
  generalize rawN c2 u = v at *
  by_cases hy : 1 - P.y = 0
  · have hy1 := sub_zero_iff hy
    rw [uOf_of_one hy1] at hv
    have v0 := toF_eq_zero hvl hv
    rw [v0, hz, pt_one hn o2 hy1, mul_zero_pt, uOf_of_one rfl]; rfl
  · by_cases hy' : 1 + P.y = 0
    · have hy1 := add_zero_iff hy'
      rw [uOf_of_minus hy1] at hv
      have v0 := toF_eq_zero hvl hv
      rw [v0, hz, ev, ← mul_mul_ hn o2]
      have e2 : pm' D P 2 = pz := by
        show pa D (pa D pz P) P = pz
        rw [zero_pa, pt_minus hn o2 hy1]
      rw [e2, mul_zero_pt, uOf_of_one rfl]; rfl
    · exact raw_uOf ⟨b.mdl, o2, by rw [hv]; exact uOf_num b.mdl.one hy, hy, hy'⟩ hvl c1
theorem pre_even {c : Nat → Nat} (h : ladBit c 0 = false) : preN c 255 = 2 * preN c 254 := by
  show 2 * preN c 254 + (ladBit c (254 - 254)).toNat = _
  rw [show 254 - 254 = 0 from rfl, h]; rfl
theorem raw_order (f g : Nat → Nat) {u : Nat} (hu : u < pr) : rawN (clampF f) (rawN (clampF g) u) = rawN (clampF g) (rawN (clampF f) u) := by
  obtain ⟨a0, a1, a2⟩ := clamp_bits f
  obtain ⟨b0, b1, b2⟩ := clamp_bits g
  have za := small0 a0 a1 a2
  have zb := small0 b0 b1 b2
  by_cases h0 : u = 0
  · subst h0; simp only [za, zb]
  · obtain ⟨D, s, B, b⟩ := base_of hu h0
    refine toF_inj (rawN_lt _ _) (rawN_lt _ _) ?_
    rw [raw_comp b hu (clampF f) (clampF g) (pre_even a0) za, raw_comp b hu (clampF g) (clampF f) (pre_even b0) zb, Nat.mul_comm]
def ell : Nat := 7237005577332262213973186563042994240857116359379907606001950938285454250989
def lr2 : Nat := 1257559732178653
def lr1 : Nat := 4434155615661930479
def lr0 : Nat := 172054593956031949258510691
def ls1 : Nat := 19757330305831588566944191468367130476339
def ls0 : Nat := 276602624281642239937218680557139826668747
theorem prm_1224481 : Prm 1224481 := prm_trial (k := 1110) (by decide +kernel) (by decide +kernel) (by decide +kernel)
theorem prm_531581 : Prm 531581 := prm_trial (k := 730) (by decide +kernel) (by decide +kernel) (by decide +kernel)
theorem prm_r2 : Prm lr2 := prm_two (a := 2) (by decide +kernel) prm_1224481 prm_531581 (by decide +kernel) (by decide +kernel) (by decide +kernel)
  (isOne_eq (f := 60) (by decide +kernel) (by decide +kernel) (by decide +kernel)) (isCop_eq (f := 60) (by decide +kernel) (by decide +kernel) (by decide +kernel)) (isCop_eq (f := 60) (by decide +kernel) (by decide +kernel) (by decide +kernel)) (by decide +kernel)
theorem prm_r1 : Prm lr1 := prm_one (a := 2) (by decide +kernel) prm_r2 (by decide +kernel)
  (isOne_eq (f := 64) (by decide +kernel) (by decide +kernel) (by decide +kernel)) (isCop_eq (f := 64) (by decide +kernel) (by decide +kernel) (by decide +kernel)) (by decide +kernel)
theorem prm_r0 : Prm lr0 := prm_one (a := 2) (by decide +kernel) prm_r1 (by decide +kernel)
  (isOne_eq (f := 90) (by decide +kernel) (by decide +kernel) (by decide +kernel)) (isCop_eq (f := 90) (by decide +kernel) (by decide +kernel) (by decide +kernel)) (by decide +kernel)
theorem prm_s1 : Prm ls1 := prm_one (a := 2) (by decide +kernel) prm_r0 (by decide +kernel)
  (isOne_eq (f := 136) (by decide +kernel) (by decide +kernel) (by decide +kernel)) (isCop_eq (f := 136) (by decide +kernel) (by decide +kernel) (by decide +kernel)) (by decide +kernel)
theorem prm_s0 : Prm ls0 := prm_one (a := 2) (by decide +kernel) prm_s1 (by decide +kernel)
  (isOne_eq (f := 140) (by decide +kernel) (by decide +kernel) (by decide +kernel)) (isCop_eq (f := 140) (by decide +kernel) (by decide +kernel) (by decide +kernel)) (by decide +kernel)
theorem prm_ell : Prm ell := prm_one (a := 2) (by decide +kernel) prm_s0 (by decide +kernel)
  (isOne_eq (f := 256) (by decide +kernel) (by decide +kernel) (by decide +kernel)) (isCop_eq (f := 256) (by decide +kernel) (by decide +kernel) (by decide +kernel)) (by decide +kernel)
/-! ### The base point's order -/
theorem pre_ell : preN (byteOf ell) 255 = ell := by decide +kernel
set_option maxRecDepth 100000 in
theorem lad_ell : (R0 (ladS (byteOf ell) 9 255)).2 = 0 := by decide +kernel
theorem ell_zero {D s : Fp} {B : Pt Fp} (b : Base D s B 9) : pm' D B ell = pz := by
  obtain ⟨⟨l, hl, _, hz⟩, _⟩ := lad_rep b (by decide) (byteOf ell) 255
  rw [lad_ell, pre_ell] at hz
  have o := on_mul b.mdl.nsq b.on ell
  generalize pm' D B ell = P at *
  refine pt_one b.mdl.nsq o (sub_zero_iff ?_)
  have e : s * l * (1 - P.y) = 0 := hz.symm
  have hs : s ≠ 0 := fun h0 => one_ne (R := Fp) (by
    rw [← b.mdl.one, h0]
    have : ∀ {R : Type} [Lean.Grind.CommRing R], (0 : R) * 0 = 0 := by intro R _; grind
    exact this)
  exact (mul_zero_or e).resolve_left (mul_ne hs hl)
/-- Bezout, for a prime. -/
theorem bez {p n : Nat} (hp : Prm p) (h : ¬ p ∣ n) : ∃ a b, n * a = p * b + 1 := by
  have hf := fermat hp h
  have h2 : 2 ≤ p := hp.1
  obtain ⟨q, hq⟩ : ∃ q, p = q + 2 := ⟨p - 2, by omega⟩
  have e : n ^ (p - 1) = n * n ^ q := by rw [hq, show q + 2 - 1 = q + 1 by omega, Nat.pow_succ, Nat.mul_comm]
  rw [e] at hf
  have := Nat.div_add_mod (n * n ^ q) p
  rw [hf] at this
  exact ⟨n ^ q, n * n ^ q / p, this.symm⟩
theorem mul_ne_pz {D s : Fp} {B : Pt Fp} (b : Base D s B 9) {n : Nat} (h : ¬ ell ∣ n) : pm' D B n ≠ pz := fun h0 => by
  obtain ⟨x, y, hxy⟩ := bez prm_ell h
  have hn := b.mdl.nsq
  have e1 : pm' D B (n * x) = pz := by rw [← mul_mul_ hn b.on, h0, mul_zero_pt]
  have e2 : pm' D B (ell * y) = pz := by rw [← mul_mul_ hn b.on, ell_zero b, mul_zero_pt]
  rw [hxy] at e1
  have e3 : pm' D B (ell * y + 1) = B := by
    show pa D (pm' D B (ell * y)) B = B
    rw [e2, zero_pa]
  rw [e3] at e1
  refine b.ne ?_
  rw [e1]
  have : ∀ {R : Type} [Lean.Grind.CommRing R], (1 : R) - 1 = 0 := by intro R _; grind
  exact this
/-- The coordinate of a multiple is not 0. -/
theorem uOf_ne {D s : Fp} {B : Pt Fp} (b : Base D s B 9) {n : Nat} (h : ¬ ell ∣ n) : uOf s (pm' D B n) ≠ 0 := fun h0 => by
  have hn := b.mdl.nsq
  have o := on_mul hn b.on n
  have h2 : ¬ ell ∣ n * 2 := fun hd => (prm_ell.dvd_mul hd).elim h (fun h2 => absurd (Nat.le_of_dvd (by omega) h2) (by decide +kernel))
  have p1 := mul_ne_pz b h
  have p2 := mul_ne_pz b h2
  rw [← mul_mul_ hn b.on] at p2
  generalize pm' D B n = P at *
  have y1 : 1 - P.y ≠ 0 := fun e => p1 (pt_one hn o (sub_zero_iff e))
  have y2 : 1 + P.y ≠ 0 := fun e => p2 (by
    show pa D (pa D pz P) P = pz
    rw [zero_pa, pt_minus hn o (add_zero_iff e)])
  have hs : s ≠ 0 := fun h0 => one_ne (R := Fp) (by
    rw [← b.mdl.one, h0]
    have : ∀ {R : Type} [Lean.Grind.CommRing R], (0 : R) * 0 = 0 := by intro R _; grind
    exact this)
  have i := mul_fi (mul_ne hs y1)
  unfold uOf at h0
  have hf : fi (s * (1 - P.y)) ≠ 0 := fun e => one_ne (R := Fp) (by
    rw [← i, e]
    have : ∀ {R : Type} [Lean.Grind.CommRing R] (a : R), a * 0 = 0 := by intro R _ a; grind
    exact this _)
  exact (mul_ne y2 hf) h0
/-! ### Clamped secrets -/
theorem pre_lt (c : Nat → Nat) : ∀ k, preN c k < 2 ^ k
  | 0 => by show 0 < 1; omega
  | k + 1 => by
    have h := pre_lt c k
    have hb : (ladBit c (254 - k)).toNat ≤ 1 := by cases ladBit c (254 - k) <;> simp
    rw [preN, Nat.pow_succ]; omega
theorem pre_pos {c : Nat → Nat} (h : ladBit c 254 = true) : ∀ k, 0 < preN c (k + 1)
  | 0 => by show 0 < 2 * 0 + (ladBit c (254 - 0)).toNat; rw [Nat.sub_zero, h]; decide
  | k + 1 => by
    have := pre_pos h k
    show 0 < 2 * preN c (k + 1) + _
    omega
theorem clamp_top (f : Nat → Nat) : ladBit (clampF f) 254 = true := by
  unfold ladBit clampF
  rw [show 254 / 8 = 31 from rfl, show 254 % 8 = 6 from rfl, if_neg (by omega), if_pos rfl]
  have e : (f 31 &&& 127 ||| 64) >>> 6 &&& 1 = 1 := by
    rw [Nat.and_one_is_mod, Nat.shiftRight_eq_div_pow]
    have h1 : Nat.testBit (f 31 &&& 127 ||| 64) 6 = true := by
      rw [Nat.testBit_or]; rw [show Nat.testBit 64 6 = true from rfl]; simp
    rw [Nat.testBit_eq_decide_div_mod_eq] at h1
    exact of_decide_eq_true h1
  rw [e]; rfl
theorem pre_eight {c : Nat → Nat} (h0 : ladBit c 0 = false) (h1 : ladBit c 1 = false) (h2 : ladBit c 2 = false) : preN c 255 = 8 * preN c 252 := by
  have a : preN c 255 = 2 * preN c 254 + (ladBit c (254 - 254)).toNat := rfl
  have b : preN c 254 = 2 * preN c 253 + (ladBit c (254 - 253)).toNat := rfl
  have d : preN c 253 = 2 * preN c 252 + (ladBit c (254 - 252)).toNat := rfl
  rw [show 254 - 254 = 0 from rfl, h0] at a
  rw [show 254 - 253 = 1 from rfl, h1] at b
  rw [show 254 - 252 = 2 from rfl, h2] at d
  simp only [Bool.toNat_false] at a b d
  omega
theorem clamp_ell (f : Nat → Nat) : ¬ ell ∣ preN (clampF f) 255 := fun hd => by
  obtain ⟨h0, h1, h2⟩ := clamp_bits f
  rw [pre_eight h0 h1 h2] at hd
  have hp := pre_pos (clamp_top f) 251
  have hl := pre_lt (clampF f) 252
  have he : 2 ^ 252 ≤ ell := by decide +kernel
  rcases prm_ell.dvd_mul hd with h | h
  · exact absurd (Nat.le_of_dvd (by omega) h) (by decide +kernel)
  · have := Nat.le_of_dvd hp h
    exact absurd (Nat.lt_of_lt_of_le hl he) (Nat.not_lt.2 this)
/-- What two share is not 0. -/
theorem shared_ne (f g : Nat → Nat) : rawN (clampF f) (rawN (clampF g) 9) ≠ 0 := fun h => by
  obtain ⟨D, s, B, b⟩ := base_of (u := 9) (by decide) (by omega)
  obtain ⟨a0, a1, a2⟩ := clamp_bits f
  have e := raw_comp b (by decide) (clampF f) (clampF g) (pre_even a0) (small0 a0 a1 a2)
  rw [h] at e
  exact uOf_ne b (fun hd => (prm_ell.dvd_mul hd).elim (clamp_ell g) (clamp_ell f)) e.symm
end Go.Proofs.YtdmioipdmdmkhaaDoor
