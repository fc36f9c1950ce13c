/- Every number but 0 is a point's coordinate, on the curve or on its twist; LadderOrder's plain law. -/
import Derived.Test.YtdmioipdmdmkhaaDoorG4
set_option linter.unusedVariables false
set_option linter.unusedSectionVars false
set_option linter.unusedSimpArgs false
namespace Go.Proofs.YtdmioipdmdmkhaaDoor
open Fld
/-! ### Squares -/
def eH : Nat := 28948022309329048855892746252171976963317496166410141009864396001978282409974
def eQ : Nat := 14474011154664524427946373126085988481658748083205070504932198000989141204987
def eE : Nat := 7237005577332262213973186563042994240829374041602535252466099000494570602494
theorem eH_q : eH = 2 * eQ := by decide +kernel
theorem eE_q : 2 * eE = eQ + 1 := by decide +kernel
theorem eH_p : 2 * eH = pr - 1 := by decide +kernel
def pw (a : Nat) (e : Nat) : Fp := toF (powP a e)
theorem pw_pm (a e : Nat) (he : e < 2 ^ 255) : pw a e = toF (pm pr a 255 e) := by
  unfold pw powP; rw [pm_eq (by decide) 255 e he]
theorem pw_add (a m n : Nat) : pw a (m + n) = pw a m * pw a n := by
  unfold pw; rw [← toF_mul, pow_mul_pow]
theorem pw_mul (a b e : Nat) : pw (a * b % pr) e = pw a e * pw b e := by
  unfold pw
  rw [← toF_mul]
  congr 1
  unfold powP
  rw [← Nat.pow_mod, Nat.mul_pow, Nat.mul_mod]
theorem pw_one {a : Nat} (ha : a % pr ≠ 0) : pw a (pr - 1) = 1 := by
  have h : ¬ pr ∣ a := fun hd => ha (Nat.mod_eq_zero_of_dvd hd)
  have := fermat prm_pr h
  unfold pw powP
  rw [this]; rfl
theorem unit_sq {R : Type} [Lean.Grind.CommRing R] [Fld R] {t : R} (h : t * t = 1) : t = 1 ∨ t = -1 := by
  have : (t - 1) * (t + 1) = 0 := by grind
  rcases mul_zero_or this with h | h
  · left; grind
  · right; grind
theorem pw_half {a : Nat} (ha : a % pr ≠ 0) : pw a eH = 1 ∨ pw a eH = -1 := by
  refine unit_sq ?_
  rw [← pw_add, show eH + eH = pr - 1 by rw [← eH_p, Nat.two_mul], pw_one ha]
theorem pw_two : pw 2 eQ * pw 2 eQ = -1 := by
  rw [← pw_add, ← Nat.two_mul, ← eH_q, pw_pm 2 eH (by decide +kernel)]
  decide +kernel
theorem sq_of_half {a : Nat} (ha : a < pr) (h : pw a eH = 1) : Sq (toF a) := by
  have h1 : pw a eQ * pw a eQ = 1 := by rw [← pw_add, ← Nat.two_mul, ← eH_q, h]
  have h2 : pw a eE * pw a eE = pw a eQ * toF a := by
    rw [← pw_add, ← Nat.two_mul, eE_q, pw_add]
    congr 1
    unfold pw; rw [pow_one a ha]
  have h3 := pw_two
  rcases unit_sq h1 with e | e
  · exact ⟨pw a eE, by rw [h2, e]; generalize toF a = x; grind⟩
  · refine ⟨pw a eE * pw 2 eQ, ?_⟩
    rw [e] at h2
    generalize toF a = x at *
    generalize pw a eE = y at *
    generalize pw 2 eQ = z at *
    clear h h1 e ha
    have : y * z * (y * z) = (y * y) * (z * z) := by
      have : ∀ {R : Type} [Lean.Grind.CommRing R] (y z : R), y * z * (y * z) = (y * y) * (z * z) := by intro R _ y z; grind
      exact this y z
    rw [this, h2, h3]
    have : ∀ {R : Type} [Lean.Grind.CommRing R] (x : R), -1 * x * -1 = x := by intro R _ x; grind
    exact this x
def nN : Nat := 14802493890
theorem nN_half : pw nN eH = -1 := by
  rw [pw_pm nN eH (by decide +kernel)]
  decide +kernel
theorem half_of_sq {a : Nat} (ha : a % pr ≠ 0) (h : Sq (toF a)) : pw a eH = 1 := by
  obtain ⟨s, hs⟩ := h
  have e : toF (s.val * s.val % pr) = toF a := by rw [toF_mul, toF_val, hs]
  have e2 : s.val * s.val % pr = a % pr := congrArg Fin.val e |>.trans rfl |> fun h => by
    have h' : s.val * s.val % pr % pr = a % pr := h
    rwa [Nat.mod_mod] at h'
  have e3 : pw a eH = pw (s.val * s.val % pr) eH := by
    unfold pw powP
    rw [e2, ← Nat.pow_mod]
  rw [e3, pw_mul]
  have hs0 : s.val % pr ≠ 0 := fun h0 => ha (by
    rw [← e2, Nat.mul_mod, h0, Nat.zero_mul, Nat.zero_mod])
  rw [← pw_add, show eH + eH = pr - 1 by rw [← eH_p, Nat.two_mul], pw_one hs0]
theorem one_ne_minus : (1 : Fp) ≠ -1 := by decide +kernel
theorem nN_nsq : ¬ Sq (toF nN) := fun h => by
  have := half_of_sq (by decide) h
  rw [nN_half] at this
  exact one_ne_minus this.symm
/-- One of a and N a is a square. -/
theorem sq_or (x : Fp) (hx : x ≠ 0) : Sq x ∨ Sq (toF nN * x) := by
  have hv : x.val % pr ≠ 0 := Fp.ne_zero hx
  rcases pw_half hv with h | h
  · left
    have := sq_of_half x.isLt h
    rwa [toF_val] at this
  · right
    have hlt : nN * x.val % pr < pr := Nat.mod_lt _ pr_pos
    have : pw (nN * x.val % pr) eH = 1 := by
      rw [pw_mul, nN_half, h]
      have : ∀ {R : Type} [Lean.Grind.CommRing R], (-1 : R) * -1 = 1 := by intro R _; grind
      exact this
    have := sq_of_half hlt this
    rwa [toF_mul, toF_val] at this
theorem nN_k : toF nN = k24 * (k24 + 1) := by decide +kernel
/-! ### The points -/
section
variable {R : Type} [Lean.Grind.CommRing R] [Fld R]
theorem sq_div {a b : R} (hb : b ≠ 0) (h : Sq (a * b * b)) : Sq a := by
  obtain ⟨s, hs⟩ := h
  have i := mul_fi hb
  refine ⟨s * fi b, ?_⟩
  generalize fi b = j at *
  have : s * j * (s * j) = (s * s) * (j * j) := by grind
  rw [this, hs]
  have : a * b * b * (j * j) = a * ((b * j) * (b * j)) := by grind
  rw [this, i]; grind
/-- The curve's parameter, if it is a square so is k (k + 1). -/
theorem nsq_line {k : R} (hn : ¬ Sq (k * (k + 1))) (h1 : k + 1 ≠ 0) : ¬ Sq (k * fi (k + 1)) := fun ⟨s, hs⟩ => hn ⟨s * (k + 1), by
  have i := mul_fi h1
  generalize fi (k + 1) = j at *
  have : s * (k + 1) * (s * (k + 1)) = (s * s) * ((k + 1) * (k + 1)) := by grind
  rw [this, hs]
  have : k * j * ((k + 1) * (k + 1)) = k * (k + 1) * ((k + 1) * j) := by grind
  rw [this, i]; grind⟩
theorem nsq_twist {k : R} (hn : ¬ Sq (k * (k + 1))) (h1 : k ≠ 0) : ¬ Sq ((k + 1) * fi k) := fun ⟨s, hs⟩ => hn ⟨s * k, by
  have i := mul_fi h1
  generalize fi k = j at *
  have : s * k * (s * k) = (s * s) * (k * k) := by grind
  rw [this, hs]
  have : (k + 1) * j * (k * k) = k * (k + 1) * (k * j) := by grind
  rw [this, i]; grind⟩
/-- The cubic of the curve. -/
abbrev cub (k u : R) : R := u * (u * u + (4 * k + 2) * u + 1)
theorem cub_ne {k u : R} (hn : ¬ Sq (k * (k + 1))) (hu : u ≠ 0) : cub k u ≠ 0 := fun h0 => by
  have h1 := (mul_zero_or h0).resolve_left hu
  have h2 : (2 : R) ≠ 0 := two_ne
  have i := mul_fi h2
  -- (2u + A)^2 = 16 k (k + 1)
  refine hn (sq_div (a := k * (k + 1)) (b := 2 * 2) (mul_ne h2 h2) ⟨2 * u + (4 * k + 2), ?_⟩)
  clear i h0
  grind
theorem fin_line {k u D X Y : R} (hD : D * (k + 1) = k) (hX : X * (u * u + (4 * k + 2) * u + 1) = 4 * (k + 1) * u) (hY : Y * ((u + 1) * (u + 1)) = (u - 1) * (u - 1)) (n1 : k + 1 ≠ 0) (n2 : u + 1 ≠ 0) (n3 : u * u + (4 * k + 2) * u + 1 ≠ 0) : X + Y = 1 + D * X * Y := by
  refine mul_left_inj (mul_ne n1 (mul_ne (mul_ne n2 n2) n3)) ?_
  have l : (k + 1) * ((u + 1) * (u + 1) * (u * u + (4 * k + 2) * u + 1)) * (X + Y) = (k + 1) * ((u + 1) * (u + 1)) * (X * (u * u + (4 * k + 2) * u + 1)) + (k + 1) * (u * u + (4 * k + 2) * u + 1) * (Y * ((u + 1) * (u + 1))) := by clear hD hX hY n1 n2 n3; grind
  have r : (k + 1) * ((u + 1) * (u + 1) * (u * u + (4 * k + 2) * u + 1)) * (1 + D * X * Y) = (k + 1) * ((u + 1) * (u + 1) * (u * u + (4 * k + 2) * u + 1)) + (D * (k + 1)) * (X * (u * u + (4 * k + 2) * u + 1)) * (Y * ((u + 1) * (u + 1))) := by clear hD hX hY n1 n2 n3; grind
  rw [l, r, hX, hY, hD]
  clear l r hD hX hY n1 n2 n3; grind
theorem fin_twist {k u D X Y : R} (hD : D * k = k + 1) (hX : X * (u * u + (4 * k + 2) * u + 1) = 4 * k * u) (hY : Y * ((u - 1) * (u - 1)) = (u + 1) * (u + 1)) (n1 : k ≠ 0) (n2 : u - 1 ≠ 0) (n3 : u * u + (4 * k + 2) * u + 1 ≠ 0) : X + Y = 1 + D * X * Y := by
  refine mul_left_inj (mul_ne n1 (mul_ne (mul_ne n2 n2) n3)) ?_
  have l : k * ((u - 1) * (u - 1) * (u * u + (4 * k + 2) * u + 1)) * (X + Y) = k * ((u - 1) * (u - 1)) * (X * (u * u + (4 * k + 2) * u + 1)) + k * (u * u + (4 * k + 2) * u + 1) * (Y * ((u - 1) * (u - 1))) := by clear hD hX hY n1 n2 n3; grind
  have r : k * ((u - 1) * (u - 1) * (u * u + (4 * k + 2) * u + 1)) * (1 + D * X * Y) = k * ((u - 1) * (u - 1) * (u * u + (4 * k + 2) * u + 1)) + (D * k) * (X * (u * u + (4 * k + 2) * u + 1)) * (Y * ((u - 1) * (u - 1))) := by clear hD hX hY n1 n2 n3; grind
  rw [l, r, hX, hY, hD]
  clear l r hD hX hY n1 n2 n3; grind
theorem fi_sq {a j : R} (h : a * j = 1) (b : R) : b * j * (b * j) * (a * a) = b * b := by
  have : b * j * (b * j) * (a * a) = b * b * ((a * j) * (a * j)) := by clear h; grind
  rw [this, h]; grind
/-- On the curve. -/
theorem line_pt {k u w : R} (hn : ¬ Sq (k * (k + 1))) (hk : k ≠ 0) (hk1 : k + 1 ≠ 0) (hu : u ≠ 0) (hw : w * w = (k + 1) * cub k u) :
    ∃ B : Pt R, On (k * fi (k + 1)) B ∧ 1 * u * (1 - B.y) = 1 + B.y ∧ 1 - B.y ≠ 0 ∧ 1 + B.y ≠ 0 := by
  have h2 : (2 : R) ≠ 0 := two_ne
  have hw0 : w ≠ 0 := fun h0 => mul_ne hk1 (cub_ne hn hu) (by rw [← hw, h0]; grind)
  have hu1 : u + 1 ≠ 0 := fun h0 => by
    have e : u = -1 := by grind
    refine hn (sq_div (a := k * (k + 1)) (b := 2) h2 ⟨w, ?_⟩)
    rw [hw, e]; clear hw hw0 h0 e; grind
  have i1 := mul_fi hw0
  have i2 := mul_fi hu1
  have i3 := mul_fi hk1
  refine ⟨⟨2 * (k + 1) * u * fi w, (u - 1) * fi (u + 1)⟩, ?_, ?_, ?_, ?_⟩
  · have n3 : u * u + (4 * k + 2) * u + 1 ≠ 0 := fun h0 => cub_ne hn hu (by show u * (u * u + (4 * k + 2) * u + 1) = 0; rw [h0]; grind)
    have hX : 2 * (k + 1) * u * fi w * (2 * (k + 1) * u * fi w) * (u * u + (4 * k + 2) * u + 1) = 4 * (k + 1) * u := by
      refine mul_left_inj (mul_ne hk1 hu) ?_
      have e := fi_sq i1 (2 * (k + 1) * u)
      rw [hw] at e
      generalize 2 * (k + 1) * u * fi w * (2 * (k + 1) * u * fi w) = X at *
      have : (k + 1) * u * (X * (u * u + (4 * k + 2) * u + 1)) = X * ((k + 1) * cub k u) := by clear e hw i1 i2 i3 hw0 n3; grind
      rw [this, e]
      clear e hw i1 i2 i3 hw0 n3 this; grind
    have hY := fi_sq i2 (u - 1)
    have hD : k * fi (k + 1) * (k + 1) = k := by
      generalize fi (k + 1) = j at *
      have : k * j * (k + 1) = k * ((k + 1) * j) := by clear hw i1 i2 i3 hX hY; grind
      rw [this, i3]; grind
    have f := fin_line hD hX hY hk1 hu1 n3
    show 2 * (k + 1) * u * fi w * (2 * (k + 1) * u * fi w) + (u - 1) * fi (u + 1) * ((u - 1) * fi (u + 1)) = 1 + k * fi (k + 1) * (2 * (k + 1) * u * fi w) * (2 * (k + 1) * u * fi w) * ((u - 1) * fi (u + 1)) * ((u - 1) * fi (u + 1))
    rw [f]
    clear f hD hY hX i1 i2 i3 hw hw0
    generalize 2 * (k + 1) * u * fi w = a
    generalize (u - 1) * fi (u + 1) = b
    generalize k * fi (k + 1) = d
    grind
  · show 1 * u * (1 - (u - 1) * fi (u + 1)) = 1 + (u - 1) * fi (u + 1)
    generalize fi (u + 1) = j at *
    clear i1 i3 hw; grind
  · show 1 - (u - 1) * fi (u + 1) ≠ 0
    intro h0
    refine h2 ?_
    generalize fi (u + 1) = j at *
    clear i1 i3 hw; grind
  · show 1 + (u - 1) * fi (u + 1) ≠ 0
    intro h0
    refine mul_ne h2 hu ?_
    generalize fi (u + 1) = j at *
    clear i1 i3 hw; grind
/-- On the twist. -/
theorem twist_pt {k u w : R} (hn : ¬ Sq (k * (k + 1))) (hk : k ≠ 0) (hk1 : k + 1 ≠ 0) (hu : u ≠ 0) (hw : w * w = k * cub k u) :
    ∃ B : Pt R, On ((k + 1) * fi k) B ∧ -1 * u * (1 - B.y) = 1 + B.y ∧ 1 - B.y ≠ 0 ∧ 1 + B.y ≠ 0 := by
  have h2 : (2 : R) ≠ 0 := two_ne
  have hw0 : w ≠ 0 := fun h0 => mul_ne hk (cub_ne hn hu) (by rw [← hw, h0]; grind)
  have hu1 : u - 1 ≠ 0 := fun h0 => by
    have e : u = 1 := by grind
    refine hn (sq_div (a := k * (k + 1)) (b := 2) h2 ⟨w, ?_⟩)
    rw [hw, e]; clear hw hw0 h0 e; grind
  have i1 := mul_fi hw0
  have i2 := mul_fi hu1
  have i3 := mul_fi hk
  refine ⟨⟨2 * k * u * fi w, (u + 1) * fi (u - 1)⟩, ?_, ?_, ?_, ?_⟩
  · have n3 : u * u + (4 * k + 2) * u + 1 ≠ 0 := fun h0 => cub_ne hn hu (by show u * (u * u + (4 * k + 2) * u + 1) = 0; rw [h0]; grind)
    have hX : 2 * k * u * fi w * (2 * k * u * fi w) * (u * u + (4 * k + 2) * u + 1) = 4 * k * u := by
      refine mul_left_inj (mul_ne hk hu) ?_
      have e := fi_sq i1 (2 * k * u)
      rw [hw] at e
      generalize 2 * k * u * fi w * (2 * k * u * fi w) = X at *
      have : k * u * (X * (u * u + (4 * k + 2) * u + 1)) = X * (k * cub k u) := by clear e hw i1 i2 i3 hw0 n3; grind
      rw [this, e]
      clear e hw i1 i2 i3 hw0 n3 this; grind
    have hY := fi_sq i2 (u + 1)
    have hD : (k + 1) * fi k * k = k + 1 := by
      generalize fi k = j at *
      have : (k + 1) * j * k = (k + 1) * (k * j) := by clear hw i1 i2 i3 hX hY; grind
      rw [this, i3]; grind
    have f := fin_twist hD hX hY hk hu1 n3
    show 2 * k * u * fi w * (2 * k * u * fi w) + (u + 1) * fi (u - 1) * ((u + 1) * fi (u - 1)) = 1 + (k + 1) * fi k * (2 * k * u * fi w) * (2 * k * u * fi w) * ((u + 1) * fi (u - 1)) * ((u + 1) * fi (u - 1))
    rw [f]
    clear f hD hY hX i1 i2 i3 hw hw0
    generalize 2 * k * u * fi w = a
    generalize (u + 1) * fi (u - 1) = b
    generalize (k + 1) * fi k = d
    grind
  · show -1 * u * (1 - (u + 1) * fi (u - 1)) = 1 + (u + 1) * fi (u - 1)
    generalize fi (u - 1) = j at *
    clear i1 i3 hw; grind
  · show 1 - (u + 1) * fi (u - 1) ≠ 0
    intro h0
    refine h2 ?_
    generalize fi (u - 1) = j at *
    clear i1 i3 hw; grind
  · show 1 + (u + 1) * fi (u - 1) ≠ 0
    intro h0
    refine mul_ne h2 hu ?_
    generalize fi (u - 1) = j at *
    clear i1 i3 hw; grind
end
theorem k24_ne : k24 ≠ 0 := by decide +kernel
theorem k24_ne' : k24 + 1 ≠ 0 := by decide +kernel
theorem k24_nsq : ¬ Sq (k24 * (k24 + 1)) := by rw [← nN_k]; exact nN_nsq
theorem k_fi {k : Fp} (h : k ≠ 0) (a : Fp) : a * fi k * k = a := by
  have i := mul_fi h
  have : ∀ {R : Type} [Lean.Grind.CommRing R] (a j k : R), k * j = 1 → a * j * k = a := by intro R _ a j k h; grind
  exact this a (fi k) k i
/-- Every number but 0 is the coordinate of a base. -/
theorem base_of {u : Nat} (hu : u < pr) (h0 : u ≠ 0) : ∃ D s B, Base D s B u := by
  have hv : toF u ≠ 0 := fun h => h0 (toF_eq_zero hu h)
  have hc := cub_ne k24_nsq hv
  rcases sq_or ((k24 + 1) * cub k24 (toF u)) (mul_ne k24_ne' hc) with ⟨w, hw⟩ | h
  · obtain ⟨B, h1, h2, h3, h4⟩ := line_pt k24_nsq k24_ne k24_ne' hv hw
    exact ⟨_, 1, B, ⟨nsq_line k24_nsq k24_ne', by decide, k24_ne, k24_ne', .inl ⟨rfl, k_fi k24_ne' _⟩⟩, h1, h2, h3, h4⟩
  · rw [nN_k] at h
    have h' : Sq (k24 * cub k24 (toF u)) := sq_div (b := k24 + 1) k24_ne' (by
      have e : k24 * cub k24 (toF u) * (k24 + 1) * (k24 + 1) = k24 * (k24 + 1) * ((k24 + 1) * cub k24 (toF u)) := by
        have : ∀ {R : Type} [Lean.Grind.CommRing R] (a b c : R), a * b * c * c = a * c * (c * b) := by intro R _ a b c; grind
        exact this _ _ _
      rw [e]; exact h)
    obtain ⟨w, hw⟩ := h'
    obtain ⟨B, h1, h2, h3, h4⟩ := twist_pt k24_nsq k24_ne k24_ne' hv hw
    exact ⟨_, -1, B, ⟨nsq_twist k24_nsq k24_ne, by decide +kernel, k24_ne, k24_ne', .inr ⟨rfl, k_fi k24_ne _⟩⟩, h1, h2, h3, h4⟩
/-! ### Two ladders -/
theorem uOf_of_one {s : Fp} {P : Pt Fp} (h : P.y = 1) : uOf s P = 0 := by
  unfold uOf
  rw [h, show s * (1 - 1 : Fp) = 0 by
    have : ∀ {R : Type} [Lean.Grind.CommRing R] (s : R), s * (1 - 1) = 0 := by intro R _ s; grind
    exact this s, fi_zero]
  have : ∀ {R : Type} [Lean.Grind.CommRing R] (s : R), s * 0 = 0 := by intro R _ s; grind
  exact this _
theorem uOf_of_minus {s : Fp} {P : Pt Fp} (h : P.y = -1) : uOf s P = 0 := by
  unfold uOf
  rw [h]
  have : ∀ {R : Type} [Lean.Grind.CommRing R] (s : R), (1 + -1) * s = 0 := by intro R _ s; grind
  exact this _
theorem sub_zero_iff {a : Fp} (h : 1 - a = 0) : a = 1 := by
  have : ∀ {R : Type} [Lean.Grind.CommRing R] (a : R), 1 - a = 0 → a = 1 := by intro R _ a h; grind
  exact this a h
theorem add_zero_iff {a : Fp} (h : 1 + a = 0) : a = -1 := by
  have : ∀ {R : Type} [Lean.Grind.CommRing R] (a : R), 1 + a = 0 → a = -1 := by intro R _ a h; grind
  exact this a h
theorem raw_comp {D s : Fp} {B : Pt Fp} {u : Nat} (b : Base D s B u) (hu : u < pr) (c1 c2 : Nat → Nat) {h1 : Nat} (ev : preN c1 255 = 2 * h1) (hz : rawN c1 0 = 0) : toF (rawN c1 (rawN c2 u)) = uOf s (pm' D B (preN c2 255 * preN c1 255)) := by
  have hv := raw_uOf b hu c2
  have hvl := rawN_lt c2 u
  have hn := b.mdl.nsq
  have o2 := on_mul hn b.on (preN c2 255)
  rw [← mul_mul_ hn b.on]
  generalize hP : pm' D B (preN c2 255) = P at *
  generalize rawN c2 u = v at *
  by_cases hy : 1 - P.y = 0
  · have hy1 := sub_zero_iff hy
    rw [uOf_of_one hy1] at hv
    have v0 := toF_eq_zero hvl hv
    rw [v0, hz, pt_one hn o2 hy1, mul_zero_pt, uOf_of_one rfl]; rfl
  · by_cases hy' : 1 + P.y = 0
    · have hy1 := add_zero_iff hy'
      rw [uOf_of_minus hy1] at hv
      have v0 := toF_eq_zero hvl hv
      rw [v0, hz, ev, ← mul_mul_ hn o2]
      have e2 : pm' D P 2 = pz := by
        show pa D (pa D pz P) P = pz
        rw [zero_pa, pt_minus hn o2 hy1]
      rw [e2, mul_zero_pt, uOf_of_one rfl]; rfl
    · exact raw_uOf ⟨b.mdl, o2, by rw [hv]; exact uOf_num b.mdl.one hy, hy, hy'⟩ hvl c1
theorem pre_even {c : Nat → Nat} (h : ladBit c 0 = false) : preN c 255 = 2 * preN c 254 := by
  show 2 * preN c 254 + (ladBit c (254 - 254)).toNat = _
  rw [show 254 - 254 = 0 from rfl, h]; rfl
theorem raw_order (f g : Nat → Nat) {u : Nat} (hu : u < pr) : rawN (clampF f) (rawN (clampF g) u) = rawN (clampF g) (rawN (clampF f) u) := by
  obtain ⟨a0, a1, a2⟩ := clamp_bits f
  obtain ⟨b0, b1, b2⟩ := clamp_bits g
  have za := small0 a0 a1 a2
  have zb := small0 b0 b1 b2
  by_cases h0 : u = 0
  · subst h0; simp only [za, zb]
  · obtain ⟨D, s, B, b⟩ := base_of hu h0
    refine toF_inj (rawN_lt _ _) (rawN_lt _ _) ?_
    rw [raw_comp b hu (clampF f) (clampF g) (pre_even a0) za, raw_comp b hu (clampF g) (clampF f) (pre_even b0) zb, Nat.mul_comm]
end Go.Proofs.YtdmioipdmdmkhaaDoor
