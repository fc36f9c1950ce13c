/- squared, Power and Invert of package field. -/
import Derived.Test.YtdmioipdmdmkhaaDoorA5
import Derived.Test.YtdmioipdmdmkhaaDoorA6
set_option linter.unusedVariables false
set_option linter.unusedSimpArgs false
namespace Go.Proofs.YtdmioipdmdmkhaaDoor
open Go.RowKit

def powP (x n : Nat) : Nat := x ^ n % pr
theorem powP_lt (x n : Nat) : powP x n < pr := Nat.mod_lt _ pr_pos
theorem facts5 {w : World} {b : Nat} {t : TypeId} {a0 a1 a2 a3 a4 : Nat} (h : w.heap[b]? = some (.cells (c5 a0 a1 a2 a3 a4) t (0, 0))) :
    (w.cell? ⟨b, 0, none⟩ = some (.int .u64 a0) ∧ w.cell? ⟨b, 1, none⟩ = some (.int .u64 a1) ∧ w.cell? ⟨b, 2, none⟩ = some (.int .u64 a2) ∧ w.cell? ⟨b, 3, none⟩ = some (.int .u64 a3) ∧ w.cell? ⟨b, 4, none⟩ = some (.int .u64 a4)) ∧
    w.frozen? ⟨b, 0, none⟩ = false ∧ w.frozen? ⟨b, 1, none⟩ = false ∧ w.frozen? ⟨b, 2, none⟩ = false ∧ w.frozen? ⟨b, 3, none⟩ = false ∧ w.frozen? ⟨b, 4, none⟩ = false :=
  ⟨⟨cell_of_blk h 0 rfl, cell_of_blk h 1 rfl, cell_of_blk h 2 rfl, cell_of_blk h 3 rfl, cell_of_blk h 4 rfl⟩, frozen_of_blk h 0, frozen_of_blk h 1, frozen_of_blk h 2, frozen_of_blk h 3, frozen_of_blk h 4⟩
theorem set_all_far {w : World} {g g' : Nat} {o : Obj} (h : w.heap[g]? = some o) (hne : g ≠ g') (v0 v1 v2 v3 v4 : Value) :
    (((((w.setCell ⟨g', 0, none⟩ v0).setCell ⟨g', 1, none⟩ v1).setCell ⟨g', 2, none⟩ v2).setCell ⟨g', 3, none⟩ v3).setCell ⟨g', 4, none⟩ v4).heap[g]? = some o :=
  set_far (set_far (set_far (set_far (set_far h _ _ hne) _ _ hne) _ _ hne) _ _ hne) _ _ hne
theorem below_all {B : Nat} {a w : World} (h : Below B a w) {g : Nat} (hg : B ≤ g) (v0 v1 v2 v3 v4 : Value) :
    Below B a (((((w.setCell ⟨g, 0, none⟩ v0).setCell ⟨g, 1, none⟩ v1).setCell ⟨g, 2, none⟩ v2).setCell ⟨g, 3, none⟩ v3).setCell ⟨g, 4, none⟩ v4) :=
  ((((h.setCell hg _).setCell hg _).setCell hg _).setCell hg _).setCell hg _
theorem El.limbs {v : Value} {x : Nat} (h : El v x) : ∃ a0 a1 a2 a3 a4 : Nat, v = limbsV a0 a1 a2 a3 a4 := by
  obtain ⟨a0, a1, a2, a3, a4, h, _⟩ := h; exact ⟨a0, a1, a2, a3, a4, h⟩

theorem El.uniq {v : Value} {x y : Nat} (h : El v x) (k : El v y) : x = y := by
  obtain ⟨a0, a1, a2, a3, a4, rfl, _, _, _, _, _, rfl⟩ := h
  obtain ⟨b0, b1, b2, b3, b4, e, _, _, _, _, _, rfl⟩ := k
  unfold limbsV at e
  simp only [Value.agg.injEq, Array.mk.injEq, List.cons.injEq, Value.int.injEq, true_and, and_true, Int.natCast_inj] at e
  obtain ⟨rfl, rfl, rfl, rfl, rfl⟩ := e
  rfl
open Classical in
/-- The product that Mul tells. -/
noncomputable def mulV (v u : Value) : Value := if h : ∃ z, (∃ x y, El v x ∧ El u y ∧ El z (x * y % pr)) ∧ Det 28 #[v, u] z then Classical.choose h else v
theorem mulV_spec {v u : Value} {x y : Nat} (hv : El v x) (hu : El u y) : El (mulV v u) (x * y % pr) ∧ Det 28 #[v, u] (mulV v u) := by
  obtain ⟨z, h1, h2⟩ := mul_any hv hu
  have h : ∃ z, (∃ x y, El v x ∧ El u y ∧ El z (x * y % pr)) ∧ Det 28 #[v, u] z := ⟨z, ⟨x, y, hv, hu, h1⟩, h2⟩
  unfold mulV
  rw [dif_pos h]
  obtain ⟨⟨x', y', e1, e2, e3⟩, e4⟩ := Classical.choose_spec h
  obtain rfl := e1.uniq hv
  obtain rfl := e2.uniq hu
  exact ⟨e3, e4⟩
open Classical in
noncomputable def smallV (n : Nat) : Value := if h : ∃ z, El z n ∧ Det 29 #[.int .u64 n] z then Classical.choose h else .nilFunc
theorem smallV_spec (n : Nat) (hn : n < 18446744073709551616) : El (smallV n) n ∧ Det 29 #[.int .u64 n] (smallV n) := by
  have h := small_any n hn
  unfold smallV
  rw [dif_pos h]
  exact Classical.choose_spec h
open Classical in
noncomputable def addV (v u : Value) : Value := if h : ∃ z, (∃ x y, El v x ∧ El u y ∧ El z ((x + y) % pr)) ∧ Det 32 #[v, u] z then Classical.choose h else v
theorem addV_spec {v u : Value} {x y : Nat} (hv : El v x) (hu : El u y) : El (addV v u) ((x + y) % pr) ∧ Det 32 #[v, u] (addV v u) := by
  obtain ⟨z, h1, h2⟩ := add_any hv hu
  have h : ∃ z, (∃ x y, El v x ∧ El u y ∧ El z ((x + y) % pr)) ∧ Det 32 #[v, u] z := ⟨z, ⟨x, y, hv, hu, h1⟩, h2⟩
  unfold addV
  rw [dif_pos h]
  obtain ⟨⟨x', y', e1, e2, e3⟩, e4⟩ := Classical.choose_spec h
  obtain rfl := e1.uniq hv
  obtain rfl := e2.uniq hu
  exact ⟨e3, e4⟩
/-- .. where the package's variable holds what it holds. -/
def DetF (n : Nat) (args : Array Value) (z : Value) : Prop := ∀ w, Four w → Calls Tryd.prog n args w fun r w' => r = .returned z ∧ Below w.heap.size w w'
open Classical in
noncomputable def subV (v u : Value) : Value := if h : ∃ z, (∃ x y, El v x ∧ El u y ∧ El z (subP x y)) ∧ DetF 33 #[v, u] z then Classical.choose h else v
theorem subV_spec {v u : Value} {x y : Nat} (hv : El v x) (hu : El u y) : El (subV v u) (subP x y) ∧ DetF 33 #[v, u] (subV v u) := by
  obtain ⟨z, h1, h2⟩ := sub_any hv hu
  have h : ∃ z, (∃ x y, El v x ∧ El u y ∧ El z (subP x y)) ∧ DetF 33 #[v, u] z := ⟨z, ⟨x, y, hv, hu, h1⟩, h2⟩
  unfold subV
  rw [dif_pos h]
  obtain ⟨⟨x', y', e1, e2, e3⟩, e4⟩ := Classical.choose_spec h
  obtain rfl := e1.uniq hv
  obtain rfl := e2.uniq hu
  exact ⟨e3, e4⟩

/-! ### squared -/
noncomputable def sqV (v : Value) : Nat → Value
  | 0 => v
  | k + 1 => mulV (sqV v k) (sqV v k)
def sqN (x : Nat) : Nat → Nat
  | 0 => x
  | k + 1 => sqN x k * sqN x k % pr
theorem sqV_el {v : Value} {x : Nat} (hv : El v x) : ∀ i, El (sqV v i) (sqN x i)
  | 0 => hv
  | i + 1 => (mulV_spec (sqV_el hv i) (sqV_el hv i)).1
theorem start_two (w : World) (x z : Array Value) {B1 : Nat} (h1 : w.heap.size + 1 = B1) : ((w.alloc (.cells x 33)).alloc (.cells z 33)).heap[w.heap.size]? = some (.cells x 33 (0, 0)) ∧ ((w.alloc (.cells x 33)).alloc (.cells z 33)).heap[B1]? = some (.cells z 33 (0, 0)) ∧
    Below w.heap.size w ((w.alloc (.cells x 33)).alloc (.cells z 33)) := by
  subst h1
  refine ⟨?_, alloc_at (by simp), ((alloc_only w _).alloc (by simp) _)⟩
  rw [Below.heap_alloc _ _ _ (by simp)]; exact alloc_at rfl

set_option maxRecDepth 100000 in
set_option maxHeartbeats 4000000 in
theorem squared_any {v : Value} {x : Nat} (hv : El v x) (n : Nat) (hn : n ≤ 1000) : Det 52 #[v, .int .i64 n] (sqV v n) := by
  intro w
  have HSE := Lib.hid (sqV_el hv)
  have HSD := Lib.hid (fun i => (mulV_spec (sqV_el hv i) (sqV_el hv i)).2)
  have HS0 := Lib.hid (show sqV v 0 = v from rfl)
  have HS1 := Lib.hid (fun i => show sqV v (i + 1) = mulV (sqV v i) (sqV v i) from rfl)
  generalize sqV v = s at *
  obtain ⟨a0, a1, a2, a3, a4, rfl⟩ := hv.limbs
  clear hv
  unfold limbsV
  go_enter Tryd.func52, Tryd.ntmps52
  go_wp2
  obtain ⟨B1, hB1⟩ : ∃ B, w.heap.size + 1 = B := ⟨_, rfl⟩
  have HS := Lib.hid (start_two w (c5 a0 a1 a2 a3 a4) (c5 0 0 0 0 0) hB1)
  try simp only [hB1]
  go_loopw [6] (fun v6 wr => ∃ i b0 b1 b2 b3 b4 : Nat, v6 = .int .i64 i ∧ i ≤ n ∧ s i = limbsV b0 b1 b2 b3 b4 ∧ wr.heap[w.heap.size]? = some (.cells (c5 b0 b1 b2 b3 b4) 33 (0, 0)) ∧ wr.heap[B1]? = some (.cells (c5 0 0 0 0 0) 33 (0, 0)) ∧ Below w.heap.size w wr) (fun v6 _ => n - (intOf v6).toNat)
  case atStart => exact ⟨0, a0, a1, a2, a3, a4, rfl, Nat.zero_le _, HS0.out, HS.out.1, HS.out.2.1, HS.out.2.2⟩
  case round =>
    obtain ⟨i, b0, b1, b2, b3, b4, rfl, hi, he, h1, h2, hb⟩ := hrel
    have HE := Lib.hid he; have H1 := Lib.hid h1; have H2 := Lib.hid h2; have HB := Lib.hid hb
    by_cases hlt : i < n
    · obtain ⟨⟨x0, x1, x2, x3, x4⟩, f0, f1, f2, f3, f4⟩ := facts5 h1
      have HC := Lib.hid (HSD.out i wr)
      rw [← HS1.out i] at HC
      obtain ⟨c0, c1, c2, c3, c4, hz⟩ := (HSE.out (i + 1)).limbs
      rw [he, hz] at HC
      have HZ := Lib.hid hz
      clear he h1 h2 hb hz
      unfold limbsV at HC
      go_wp2_with fail
      refine HC.out.mono ?_
      rintro e w1 ⟨rfl, hb1⟩
      have HB1 := Lib.hid (HB.out.trans (hb1.mono HB.out.size))
      have G1 := Lib.hid ((hb1.block _ (heap_lt H1.out)).trans H1.out)
      have G2 := Lib.hid ((hb1.block _ (heap_lt H2.out)).trans H2.out)
      clear x0 x1 x2 x3 x4 f0 f1 f2 f3 f4 hb1
      obtain ⟨⟨x0, x1, x2, x3, x4⟩, f0, f1, f2, f3, f4⟩ := facts5 G1.out
      go_wp2
      go_roundw
      case rel => exact ⟨i + 1, c0, c1, c2, c3, c4, by go_num, hlt, HZ.out, set_all G1.out _ _ _ _ _, set_all_far G2.out (by omega) _ _ _ _ _, below_all HB1.out (Nat.le_refl _) _ _ _ _ _⟩
      case measure => simp [intOf]; omega
    · obtain rfl : i = n := by omega
      obtain ⟨⟨x0, x1, x2, x3, x4⟩, _, _, _, _, _⟩ := facts5 h1
      obtain ⟨⟨y0, y1, y2, y3, y4⟩, f0, f1, f2, f3, f4⟩ := facts5 h2
      have hwB : w.heap.size ≤ B1 := by omega
      clear he h1 h2 hb
      go_wp2
      try simp only [Exit.inBlock, Exit.then]
      refine bodyPost_ret (results_cell_row rfl _ _ B1 33 _ (0, 0) _ rfl (set_all H2.out _ _ _ _ _) Tryd.underlying33 rfl info33) rfl ?_
      exact ⟨by rw [HE.out]; rfl, below_all HB.out hwB _ _ _ _ _⟩

/-! ### Power -/
theorem pow_odd (o x n : Nat) (h : n % 2 = 1) : (o * x % pr * (x * x % pr) ^ (n / 2)) % pr = (o * x ^ n) % pr := by
  have e : x ^ n = x * (x * x) ^ (n / 2) := by
    have : n = 2 * (n / 2) + 1 := by omega
    rw [← Nat.pow_two, ← Nat.pow_mul]
    conv => lhs; rw [this]
    rw [Nat.pow_succ, Nat.mul_comm]
  rw [e, Nat.mul_mod, Nat.mod_mod, ← Nat.pow_mod, ← Nat.mul_mod, Nat.mul_assoc]
theorem pow_even (o x n : Nat) (h : n % 2 = 0) : (o * (x * x % pr) ^ (n / 2)) % pr = (o * x ^ n) % pr := by
  have e : x ^ n = (x * x) ^ (n / 2) := by
    have : n = 2 * (n / 2) := by omega
    rw [← Nat.pow_two, ← Nat.pow_mul]
    conv => lhs; rw [this]
  rw [e, Nat.mul_mod, ← Nat.pow_mod, ← Nat.mul_mod]
theorem and_one (n : Nat) (hn : n < 18446744073709551616) : bits .and .u64 (n : Int) 1 = ((n % 2 : Nat) : Int) := by
  have h := bits_and_u64_nat n 1 hn (by omega)
  rw [Nat.and_one_is_mod] at h
  exact h

/-- Power's loop. -/
noncomputable def powR (o p : Value) (m : Nat) : Value := if h : m = 0 then o else powR (if m % 2 = 1 then mulV o p else o) (mulV p p) (m / 2)
termination_by m
theorem powR_zero (o p : Value) : powR o p 0 = o := by rw [powR, dif_pos rfl]
theorem powR_odd {o p : Value} {m : Nat} (h : m % 2 = 1) : powR o p m = powR (mulV o p) (mulV p p) (m / 2) := by rw [powR, dif_neg (by omega), if_pos h]
theorem powR_even {o p : Value} {m : Nat} (h0 : m ≠ 0) (h : ¬ m % 2 = 1) : powR o p m = powR o (mulV p p) (m / 2) := by rw [powR, dif_neg h0, if_neg h]
theorem powR_el : ∀ (m : Nat) {o p : Value} {o' p' : Nat}, El o o' → El p p' → El (powR o p m) (o' * p' ^ m % pr)
  | m, o, p, o', p', ho, hp => by
    by_cases h0 : m = 0
    · subst h0
      rw [powR_zero, Nat.pow_zero, Nat.mul_one, Nat.mod_eq_of_lt ho.lt]; exact ho
    · by_cases h1 : m % 2 = 1
      · rw [powR_odd h1, ← pow_odd o' p' m h1]
        exact powR_el (m / 2) (mulV_spec ho hp).1 (mulV_spec hp hp).1
      · rw [powR_even h0 h1, ← pow_even o' p' m (by omega)]
        exact powR_el (m / 2) ho (mulV_spec hp hp).1
termination_by m => m
decreasing_by all_goals omega
noncomputable def powV (v : Value) (n : Nat) : Value := powR (smallV 1) v n
theorem powV_el {v : Value} {x : Nat} (hv : El v x) (n : Nat) : El (powV v n) (powP x n) := by
  have := powR_el n (smallV_spec 1 (by omega)).1 hv
  rw [Nat.one_mul] at this
  exact this

set_option maxRecDepth 100000 in
set_option maxHeartbeats 8000000 in
theorem power_any {v : Value} {x : Nat} (hv : El v x) (n : Nat) (hn : n < 18446744073709551616) : Det 20 #[v, .int .u64 n] (powV v n) := by
  intro w
  have HV := Lib.hid hv
  have HPV := Lib.hid (show powV v n = powR (smallV 1) v n from rfl)
  obtain ⟨a0, a1, a2, a3, a4, rfl⟩ := hv.limbs
  clear hv
  unfold limbsV
  obtain ⟨W0, hW0⟩ : ∃ W, W = (w.alloc (.cells (c5 a0 a1 a2 a3 a4) 33)).alloc (.cells (c5 0 0 0 0 0) 33) := ⟨_, rfl⟩
  obtain ⟨hzs, hzd⟩ := smallV_spec 1 (by omega)
  have HZ := Lib.hid hzs
  have HC := Lib.hid (hzd W0)
  obtain ⟨o0, o1, o2, o3, o4, hz⟩ := hzs.limbs
  have HZL := Lib.hid hz
  rw [hz] at HC
  clear hzd hzs
  rw [hW0] at HC
  go_enter Tryd.func20, Tryd.ntmps20
  go_wp2_with fail
  refine HC.out.mono ?_
  rw [← hW0]
  rintro e w1 ⟨rfl, hb1⟩
  obtain ⟨B1, hB1⟩ : ∃ B, w.heap.size + 1 = B := ⟨_, rfl⟩
  have HS := Lib.hid (start_two w (c5 a0 a1 a2 a3 a4) (c5 0 0 0 0 0) hB1)
  rw [← hW0] at HS
  have hs1 := hb1.size
  have hs0 : W0.heap.size = B1 + 1 := by rw [hW0, ← hB1]; simp
  obtain ⟨B5, hB5⟩ : ∃ B, w1.heap.size = B := ⟨_, rfl⟩
  have hl5 : B1 < B5 := by omega
  have G0 := Lib.hid (show (w1.alloc (.cells (c5 o0 o1 o2 o3 o4) 33)).heap[w.heap.size]? = some (.cells (c5 a0 a1 a2 a3 a4) 33 (0, 0)) by rw [Below.heap_alloc _ _ _ (by omega)]; exact (hb1.block _ (by omega)).trans HS.out.1)
  have G1 := Lib.hid (show (w1.alloc (.cells (c5 o0 o1 o2 o3 o4) 33)).heap[B1]? = some (.cells (c5 0 0 0 0 0) 33 (0, 0)) by rw [Below.heap_alloc _ _ _ (by omega)]; exact (hb1.block _ (by omega)).trans HS.out.2.1)
  have G5 := Lib.hid (show (w1.alloc (.cells (c5 o0 o1 o2 o3 o4) 33)).heap[B5]? = some (.cells (c5 o0 o1 o2 o3 o4) 33 (0, 0)) from alloc_at hB5)
  have GB := Lib.hid (show Below w.heap.size w (w1.alloc (.cells (c5 o0 o1 o2 o3 o4) 33)) from (HS.out.2.2.trans (hb1.mono HS.out.2.2.size)).alloc (by omega) _)
  clear hz hb1 HC hW0 hs0 hs1
  unfold limbsV
  go_wp2
  try simp only [hB1, hB5]
  go_loopw [1] (fun v1 wr => ∃ m x' o' b0 b1 b2 b3 b4 c0 c1 c2 c3 c4 : Nat, v1 = .int .u64 m ∧ m < 18446744073709551616 ∧ El (limbsV b0 b1 b2 b3 b4) x' ∧ El (limbsV c0 c1 c2 c3 c4) o' ∧ powR (limbsV c0 c1 c2 c3 c4) (limbsV b0 b1 b2 b3 b4) m = powV (limbsV a0 a1 a2 a3 a4) n ∧
    wr.heap[w.heap.size]? = some (.cells (c5 b0 b1 b2 b3 b4) 33 (0, 0)) ∧ wr.heap[B5]? = some (.cells (c5 c0 c1 c2 c3 c4) 33 (0, 0)) ∧ wr.heap[B1]? = some (.cells (c5 0 0 0 0 0) 33 (0, 0)) ∧ Below w.heap.size w wr) (fun v1 _ => (intOf v1).toNat)
  case atStart => exact ⟨n, x, 1, a0, a1, a2, a3, a4, o0, o1, o2, o3, o4, rfl, hn, HV.out, by rw [← HZL.out]; exact HZ.out, by rw [← HZL.out]; exact HPV.out.symm, G0.out, G5.out, G1.out, GB.out⟩
  case round =>
    obtain ⟨m, x', o', b0, b1, b2, b3, b4, c0, c1, c2, c3, c4, rfl, hm, hex, heo, hT, h0, h5, h1, hb⟩ := hrel
    have HEX := Lib.hid hex; have HEO := Lib.hid heo; have HT := Lib.hid hT; have H0 := Lib.hid h0; have H5 := Lib.hid h5; have H1 := Lib.hid h1; have HB := Lib.hid hb
    clear hex heo hT h0 h5 h1 hb
    by_cases hz : m = 0
    · subst hz
      obtain ⟨⟨x0, x1, x2, x3, x4⟩, _, _, _, _, _⟩ := facts5 H5.out
      obtain ⟨⟨y0, y1, y2, y3, y4⟩, f0, f1, f2, f3, f4⟩ := facts5 H1.out
      have hwB : w.heap.size ≤ B1 := by omega
      have HFE := Lib.hid (show limbsV c0 c1 c2 c3 c4 = powV (limbsV a0 a1 a2 a3 a4) n by rw [← HT.out, powR_zero])
      go_wp2
      try simp only [Exit.inBlock, Exit.then]
      refine bodyPost_ret (results_cell_row rfl _ _ B1 33 _ (0, 0) _ rfl (set_all H1.out _ _ _ _ _) Tryd.underlying33 rfl info33) rfl ?_
      exact ⟨by show _ = Ending.returned (powV (limbsV a0 a1 a2 a3 a4) n); rw [← HFE.out]; rfl, below_all HB.out hwB _ _ _ _ _⟩
    · have hpos : decide (0 < m) = true := by simp; omega
      obtain ⟨⟨x0, x1, x2, x3, x4⟩, f0, f1, f2, f3, f4⟩ := facts5 H0.out
      obtain ⟨⟨y0, y1, y2, y3, y4⟩, g0, g1, g2, g3, g4⟩ := facts5 H5.out
      obtain ⟨hm2e, hm2d⟩ := mulV_spec HEX.out HEX.out
      obtain ⟨e0, e1, e2, e3, e4, hz3⟩ := hm2e.limbs
      rw [hz3] at hm2e hm2d
      have HZ3 := Lib.hid hm2e
      have HM2 := Lib.hid hm2d
      have HL3 := Lib.hid hz3
      clear hm2e hm2d hz3
      unfold Det at HM2
      by_cases hodd : m % 2 = 1
      · have ha : bits .and .u64 (m : Int) 1 = 1 := by rw [and_one m hm, hodd]; rfl
        obtain ⟨hm1e, hm1d⟩ := mulV_spec HEO.out HEX.out
        obtain ⟨d0, d1, d2, d3, d4, hz2⟩ := hm1e.limbs
        rw [hz2] at hm1e hm1d
        have HZ2 := Lib.hid hm1e
        have HM1 := Lib.hid hm1d
        have HN := Lib.hid ((powR_odd hodd).symm.trans HT.out)
        rw [hz2, HL3.out] at HN
        clear hm1e hm1d hz2
        unfold Det at HM1
        unfold limbsV at HM1 HM2
        go_wp2_with fail
        refine (HM1.out _).mono ?_
        rintro e w2 ⟨rfl, hb2⟩
        have HB2 := Lib.hid (HB.out.trans (hb2.mono HB.out.size))
        have K0 := Lib.hid ((hb2.block _ (heap_lt H0.out)).trans H0.out)
        have K1 := Lib.hid ((hb2.block _ (heap_lt H1.out)).trans H1.out)
        have K5 := Lib.hid ((hb2.block _ (heap_lt H5.out)).trans H5.out)
        clear x0 x1 x2 x3 x4 f0 f1 f2 f3 f4 y0 y1 y2 y3 y4 g0 g1 g2 g3 g4 hb2
        have K0' := Lib.hid (set_all_far K0.out (show w.heap.size ≠ B5 by omega) (.int .u64 d0) (.int .u64 d1) (.int .u64 d2) (.int .u64 d3) (.int .u64 d4))
        obtain ⟨⟨x0, x1, x2, x3, x4⟩, _, _, _, _, _⟩ := facts5 K0.out
        obtain ⟨⟨y0, y1, y2, y3, y4⟩, g0, g1, g2, g3, g4⟩ := facts5 K5.out
        have hne : w.heap.size ≠ B5 := by omega
        go_wp2_with fail
        refine (HM2.out _).mono ?_
        rintro e w3 ⟨rfl, hb3⟩
        have hbs := below_all HB2.out (show w.heap.size ≤ B5 by omega) (.int .u64 d0) (.int .u64 d1) (.int .u64 d2) (.int .u64 d3) (.int .u64 d4)
        have HB3 := Lib.hid (hbs.trans (hb3.mono hbs.size))
        have L0 := Lib.hid ((hb3.block _ (heap_lt K0'.out)).trans K0'.out)
        have k1 := set_all_far K1.out (show B1 ≠ B5 by omega) (.int .u64 d0) (.int .u64 d1) (.int .u64 d2) (.int .u64 d3) (.int .u64 d4)
        have L1 := Lib.hid ((hb3.block _ (heap_lt k1)).trans k1)
        have k5 := set_all K5.out (.int .u64 d0) (.int .u64 d1) (.int .u64 d2) (.int .u64 d3) (.int .u64 d4)
        have L5 := Lib.hid ((hb3.block _ (heap_lt k5)).trans k5)
        clear x0 x1 x2 x3 x4 y0 y1 y2 y3 y4 g0 g1 g2 g3 g4 hb3 hbs k1 k5
        obtain ⟨⟨x0, x1, x2, x3, x4⟩, f0, f1, f2, f3, f4⟩ := facts5 L0.out
        go_wp2
        go_roundw
        case rel =>
          refine ⟨m / 2, _, _, e0, e1, e2, e3, e4, d0, d1, d2, d3, d4, ?_, by omega, HZ3.out, HZ2.out, HN.out, set_all L0.out _ _ _ _ _, set_all_far L5.out (by omega) _ _ _ _ _, set_all_far L1.out (by omega) _ _ _ _ _, below_all HB3.out (Nat.le_refl _) _ _ _ _ _⟩
          congr 1
        case measure => simp [intOf]; omega
      · have ha : bits .and .u64 (m : Int) 1 = 0 := by rw [and_one m hm, show m % 2 = 0 by omega]; rfl
        have HN := Lib.hid ((powR_even hz hodd).symm.trans HT.out)
        rw [HL3.out] at HN
        unfold limbsV at HM2
        clear y0 y1 y2 y3 y4 g0 g1 g2 g3 g4
        go_wp2_with fail
        refine (HM2.out _).mono ?_
        rintro e w3 ⟨rfl, hb3⟩
        have HB3 := Lib.hid (HB.out.trans (hb3.mono HB.out.size))
        have L0 := Lib.hid ((hb3.block _ (heap_lt H0.out)).trans H0.out)
        have L1 := Lib.hid ((hb3.block _ (heap_lt H1.out)).trans H1.out)
        have L5 := Lib.hid ((hb3.block _ (heap_lt H5.out)).trans H5.out)
        clear x0 x1 x2 x3 x4 f0 f1 f2 f3 f4 hb3
        obtain ⟨⟨x0, x1, x2, x3, x4⟩, f0, f1, f2, f3, f4⟩ := facts5 L0.out
        go_wp2
        go_roundw
        case rel =>
          refine ⟨m / 2, _, _, e0, e1, e2, e3, e4, c0, c1, c2, c3, c4, ?_, by omega, HZ3.out, HEO.out, HN.out, set_all L0.out _ _ _ _ _, set_all_far L5.out (by omega) _ _ _ _ _, set_all_far L1.out (by omega) _ _ _ _ _, below_all HB3.out (Nat.le_refl _) _ _ _ _ _⟩
          congr 1
        case measure => simp [intOf]; omega

end Go.Proofs.YtdmioipdmdmkhaaDoor
