/- carried of package field: each limb small again, the number the same but for multiples of p. -/
import Derived.Test.YtdmioipdmdmkhaaDoorK0
import Derived.LoopN
import Derived.Handy
import Derived.Below
import Derived.Deep.LoopGhost
import Derived.Deep.RegionHeld3
import Derived.Laws.Bits64b
set_option linter.unusedVariables false
set_option linter.unusedSimpArgs false
namespace Go.Proofs.YtdmioipdmdmkhaaDoor
open Go.RowKit

def limbsV (a0 a1 a2 a3 a4 : Nat) : Value := .agg #[.int .u64 a0, .int .u64 a1, .int .u64 a2, .int .u64 a3, .int .u64 a4]
def valN (a0 a1 a2 a3 a4 : Nat) : Nat := a0 + 2251799813685248 * a1 + 5070602400912917605986812821504 * a2 + 11417981541647679048466287755595961091061972992 * a3 + 25711008708143844408671393477458601640355247900524685364822016 * a4
def pr : Nat := 57896044618658097711785492504343953926634992332820282019728792003956564819949

theorem mask51 (a : Nat) (ha : a < 18446744073709551616) : bits .and .u64 (a : Int) 2251799813685247 = ((a % 2251799813685248 : Nat) : Int) := by
  have h := bits_and_u64_nat a 2251799813685247 ha (by omega)
  have e : a &&& 2251799813685247 = a % 2251799813685248 := Nat.and_two_pow_sub_one_eq_mod a 51
  rw [e] at h
  exact h
theorem mask_of (x : Int) (a : Nat) (hx : x = a) (ha : a < 18446744073709551616) : bits .and .u64 x 2251799813685247 = ((a % 2251799813685248 : Nat) : Int) := by
  subst hx; exact mask51 a ha
theorem quo_of (x : Int) (a : Nat) (hx : x = a) : x / 2251799813685248 = ((a / 2251799813685248 : Nat) : Int) := by
  subst hx; omega

/-- Behind i limbs of a round. -/
structure Mid (i b0 b1 b2 b3 b4 d0 d1 d2 d3 d4 c : Nat) : Prop where
  e0 : i ≤ 0 → d0 = b0
  e1 : i ≤ 1 → d1 = b1
  e2 : i ≤ 2 → d2 = b2
  e3 : i ≤ 3 → d3 = b3
  e4 : i ≤ 4 → d4 = b4
  s0 : 0 < i → d0 < 2251799813685248
  s1 : 1 < i → d1 < 2251799813685248
  s2 : 2 < i → d2 < 2251799813685248
  s3 : 3 < i → d3 < 2251799813685248
  s4 : 4 < i → d4 < 2251799813685248
  cc : c ≤ 4096
  v0 : i = 0 → c = 0
  v1 : i = 1 → valN d0 d1 d2 d3 d4 + 2251799813685248 * c = valN b0 b1 b2 b3 b4
  v2 : i = 2 → valN d0 d1 d2 d3 d4 + 5070602400912917605986812821504 * c = valN b0 b1 b2 b3 b4
  v3 : i = 3 → valN d0 d1 d2 d3 d4 + 11417981541647679048466287755595961091061972992 * c = valN b0 b1 b2 b3 b4
  v4 : i = 4 → valN d0 d1 d2 d3 d4 + 25711008708143844408671393477458601640355247900524685364822016 * c = valN b0 b1 b2 b3 b4
  v5 : i = 5 → valN d0 d1 d2 d3 d4 + 57896044618658097711785492504343953926634992332820282019728792003956564819968 * c = valN b0 b1 b2 b3 b4

/-- Behind r rounds. -/
structure Bnd (r b0 b1 b2 b3 b4 : Nat) : Prop where
  rr : r ≤ 2
  a0 : b0 < 9223372036854775808
  a1 : b1 < 9223372036854775808
  a2 : b2 < 9223372036854775808
  a3 : b3 < 9223372036854775808
  a4 : b4 < 9223372036854775808
  m : 0 < r → b0 ≤ 2251799813763072 ∧ b1 < 2251799813685248 ∧ b2 < 2251799813685248 ∧ b3 < 2251799813685248 ∧ b4 < 2251799813685248
  f : 1 < r → b0 < 2251799813685267

theorem mid_c1 {r b0 b1 b2 b3 b4 d0 d1 d2 d3 d4 c : Nat} (hb : Bnd r b0 b1 b2 b3 b4) (hm : Mid 5 b0 b1 b2 b3 b4 d0 d1 d2 d3 d4 c) (hr : 0 < r) : c ≤ 1 := by
  have h := hm.v5 rfl
  obtain ⟨q0, q1, q2, q3, q4⟩ := hb.m hr
  unfold valN at h
  omega
theorem bnd_next {r b0 b1 b2 b3 b4 d0 d1 d2 d3 d4 c : Nat} (hb : Bnd r b0 b1 b2 b3 b4) (hm : Mid 5 b0 b1 b2 b3 b4 d0 d1 d2 d3 d4 c) (hr : r < 2) : Bnd (r + 1) (d0 + 19 * c) d1 d2 d3 d4 := by
  have s0 := hm.s0 (by omega)
  have s1 := hm.s1 (by omega)
  have s2 := hm.s2 (by omega)
  have s3 := hm.s3 (by omega)
  have s4 := hm.s4 (by omega)
  have hc := hm.cc
  refine ⟨by omega, by omega, by omega, by omega, by omega, by omega, fun _ => ⟨by omega, s1, s2, s3, s4⟩, fun h => ?_⟩
  have := mid_c1 hb hm (by omega)
  omega
theorem val_next {b0 b1 b2 b3 b4 d0 d1 d2 d3 d4 c n k : Nat} (hm : Mid 5 b0 b1 b2 b3 b4 d0 d1 d2 d3 d4 c) (h : valN b0 b1 b2 b3 b4 + k * pr = n) : valN (d0 + 19 * c) d1 d2 d3 d4 + (k + c) * pr = n := by
  have hv := hm.v5 rfl
  have e : (k + c) * pr = k * pr + c * pr := Nat.add_mul _ _ _
  have e2 : c * pr + 19 * c = 57896044618658097711785492504343953926634992332820282019728792003956564819968 * c := by unfold pr; omega
  rw [e]
  unfold valN at hv h ⊢
  generalize c * pr = cp at *
  generalize k * pr = kp at *
  omega

theorem mid_next0 {b0 b1 b2 b3 b4 d0 d1 d2 d3 d4 c : Nat} (hm : Mid 0 b0 b1 b2 b3 b4 d0 d1 d2 d3 d4 c) (hb : d0 < 9223372036854775808) : Mid 1 b0 b1 b2 b3 b4 ((d0 + c) % 2251799813685248) d1 d2 d3 d4 ((d0 + c) / 2251799813685248) := by
  have hc := hm.cc
  have hv := hm.v0 rfl
  have x0 := hm.e0 (by omega)
  have x1 := hm.e1 (by omega)
  have x2 := hm.e2 (by omega)
  have x3 := hm.e3 (by omega)
  have x4 := hm.e4 (by omega)
  subst x0 x1 x2 x3 x4
  exact ⟨by omega, fun _ => hm.e1 (by omega), fun _ => hm.e2 (by omega), fun _ => hm.e3 (by omega), fun _ => hm.e4 (by omega), fun _ => by omega, by omega, by omega, by omega, by omega, by omega, by omega, fun _ => by have e := Nat.div_add_mod (d0 + c) 2251799813685248; generalize (d0 + c) / 2251799813685248 = q at *; generalize (d0 + c) % 2251799813685248 = t at *; unfold valN; omega, by omega, by omega, by omega, by omega⟩
theorem mid_next1 {b0 b1 b2 b3 b4 d0 d1 d2 d3 d4 c : Nat} (hm : Mid 1 b0 b1 b2 b3 b4 d0 d1 d2 d3 d4 c) (hb : d1 < 9223372036854775808) : Mid 2 b0 b1 b2 b3 b4 d0 ((d1 + c) % 2251799813685248) d2 d3 d4 ((d1 + c) / 2251799813685248) := by
  have hc := hm.cc
  have hv := hm.v1 rfl
  exact ⟨by omega, by omega, fun _ => hm.e2 (by omega), fun _ => hm.e3 (by omega), fun _ => hm.e4 (by omega), fun _ => hm.s0 (by omega), fun _ => by omega, by omega, by omega, by omega, by omega, by omega, by omega, fun _ => by have e := Nat.div_add_mod (d1 + c) 2251799813685248; generalize (d1 + c) / 2251799813685248 = q at *; generalize (d1 + c) % 2251799813685248 = t at *; unfold valN at hv ⊢; omega, by omega, by omega, by omega⟩
theorem mid_next2 {b0 b1 b2 b3 b4 d0 d1 d2 d3 d4 c : Nat} (hm : Mid 2 b0 b1 b2 b3 b4 d0 d1 d2 d3 d4 c) (hb : d2 < 9223372036854775808) : Mid 3 b0 b1 b2 b3 b4 d0 d1 ((d2 + c) % 2251799813685248) d3 d4 ((d2 + c) / 2251799813685248) := by
  have hc := hm.cc
  have hv := hm.v2 rfl
  exact ⟨by omega, by omega, by omega, fun _ => hm.e3 (by omega), fun _ => hm.e4 (by omega), fun _ => hm.s0 (by omega), fun _ => hm.s1 (by omega), fun _ => by omega, by omega, by omega, by omega, by omega, by omega, by omega, fun _ => by have e := Nat.div_add_mod (d2 + c) 2251799813685248; generalize (d2 + c) / 2251799813685248 = q at *; generalize (d2 + c) % 2251799813685248 = t at *; unfold valN at hv ⊢; omega, by omega, by omega⟩
theorem mid_next3 {b0 b1 b2 b3 b4 d0 d1 d2 d3 d4 c : Nat} (hm : Mid 3 b0 b1 b2 b3 b4 d0 d1 d2 d3 d4 c) (hb : d3 < 9223372036854775808) : Mid 4 b0 b1 b2 b3 b4 d0 d1 d2 ((d3 + c) % 2251799813685248) d4 ((d3 + c) / 2251799813685248) := by
  have hc := hm.cc
  have hv := hm.v3 rfl
  exact ⟨by omega, by omega, by omega, by omega, fun _ => hm.e4 (by omega), fun _ => hm.s0 (by omega), fun _ => hm.s1 (by omega), fun _ => hm.s2 (by omega), fun _ => by omega, by omega, by omega, by omega, by omega, by omega, by omega, fun _ => by have e := Nat.div_add_mod (d3 + c) 2251799813685248; generalize (d3 + c) / 2251799813685248 = q at *; generalize (d3 + c) % 2251799813685248 = t at *; unfold valN at hv ⊢; omega, by omega⟩
theorem mid_next4 {b0 b1 b2 b3 b4 d0 d1 d2 d3 d4 c : Nat} (hm : Mid 4 b0 b1 b2 b3 b4 d0 d1 d2 d3 d4 c) (hb : d4 < 9223372036854775808) : Mid 5 b0 b1 b2 b3 b4 d0 d1 d2 d3 ((d4 + c) % 2251799813685248) ((d4 + c) / 2251799813685248) := by
  have hc := hm.cc
  have hv := hm.v4 rfl
  exact ⟨by omega, by omega, by omega, by omega, by omega, fun _ => hm.s0 (by omega), fun _ => hm.s1 (by omega), fun _ => hm.s2 (by omega), fun _ => hm.s3 (by omega), fun _ => by omega, by omega, by omega, by omega, by omega, by omega, by omega, fun _ => by have e := Nat.div_add_mod (d4 + c) 2251799813685248; generalize (d4 + c) / 2251799813685248 = q at *; generalize (d4 + c) % 2251799813685248 = t at *; unfold valN at hv ⊢; omega⟩

/-- Five limbs; five limbs and a carry. -/
structure L5 where
  a0 : Nat
  a1 : Nat
  a2 : Nat
  a3 : Nat
  a4 : Nat
structure L6 where
  d0 : Nat
  d1 : Nat
  d2 : Nat
  d3 : Nat
  d4 : Nat
  c : Nat
/-- One limb's turn. -/
def turn : Nat → L6 → L6
  | 0, s => ⟨(s.d0 + s.c) % 2251799813685248, s.d1, s.d2, s.d3, s.d4, (s.d0 + s.c) / 2251799813685248⟩
  | 1, s => ⟨s.d0, (s.d1 + s.c) % 2251799813685248, s.d2, s.d3, s.d4, (s.d1 + s.c) / 2251799813685248⟩
  | 2, s => ⟨s.d0, s.d1, (s.d2 + s.c) % 2251799813685248, s.d3, s.d4, (s.d2 + s.c) / 2251799813685248⟩
  | 3, s => ⟨s.d0, s.d1, s.d2, (s.d3 + s.c) % 2251799813685248, s.d4, (s.d3 + s.c) / 2251799813685248⟩
  | _, s => ⟨s.d0, s.d1, s.d2, s.d3, (s.d4 + s.c) % 2251799813685248, (s.d4 + s.c) / 2251799813685248⟩
def stp (B : L5) : Nat → L6
  | 0 => ⟨B.a0, B.a1, B.a2, B.a3, B.a4, 0⟩
  | i + 1 => turn i (stp B i)
def rn (B : L5) : L5 := ⟨(stp B 5).d0 + 19 * (stp B 5).c, (stp B 5).d1, (stp B 5).d2, (stp B 5).d3, (stp B 5).d4⟩
def itr (A : L5) : Nat → L5
  | 0 => A
  | r + 1 => rn (itr A r)
theorem mid_stp {r b0 b1 b2 b3 b4 : Nat} (hb : Bnd r b0 b1 b2 b3 b4) : Mid 5 b0 b1 b2 b3 b4 (stp ⟨b0, b1, b2, b3, b4⟩ 5).d0 (stp ⟨b0, b1, b2, b3, b4⟩ 5).d1 (stp ⟨b0, b1, b2, b3, b4⟩ 5).d2 (stp ⟨b0, b1, b2, b3, b4⟩ 5).d3 (stp ⟨b0, b1, b2, b3, b4⟩ 5).d4 (stp ⟨b0, b1, b2, b3, b4⟩ 5).c := by
  have m0 : Mid 0 b0 b1 b2 b3 b4 b0 b1 b2 b3 b4 0 := ⟨fun _ => rfl, fun _ => rfl, fun _ => rfl, fun _ => rfl, fun _ => rfl, by omega, by omega, by omega, by omega, by omega, by omega, fun _ => rfl, by omega, by omega, by omega, by omega, by omega⟩
  exact mid_next4 (mid_next3 (mid_next2 (mid_next1 (mid_next0 m0 hb.a0) hb.a1) hb.a2) hb.a3) hb.a4
theorem rn_spec {r b0 b1 b2 b3 b4 n k : Nat} (hb : Bnd r b0 b1 b2 b3 b4) (hr : r < 2) (hv : valN b0 b1 b2 b3 b4 + k * pr = n) : Bnd (r + 1) (rn ⟨b0, b1, b2, b3, b4⟩).a0 (rn ⟨b0, b1, b2, b3, b4⟩).a1 (rn ⟨b0, b1, b2, b3, b4⟩).a2 (rn ⟨b0, b1, b2, b3, b4⟩).a3 (rn ⟨b0, b1, b2, b3, b4⟩).a4 ∧
    ∃ k, valN (rn ⟨b0, b1, b2, b3, b4⟩).a0 (rn ⟨b0, b1, b2, b3, b4⟩).a1 (rn ⟨b0, b1, b2, b3, b4⟩).a2 (rn ⟨b0, b1, b2, b3, b4⟩).a3 (rn ⟨b0, b1, b2, b3, b4⟩).a4 + k * pr = n :=
  ⟨bnd_next hb (mid_stp hb) hr, _, val_next (mid_stp hb) hv⟩
/-- What carried makes of five limbs. -/
def crd (a0 a1 a2 a3 a4 : Nat) : L5 := itr ⟨a0, a1, a2, a3, a4⟩ 2
def L5.v (A : L5) : Value := limbsV A.a0 A.a1 A.a2 A.a3 A.a4
theorem crd_spec {a0 a1 a2 a3 a4 : Nat} (h0 : a0 < 9223372036854775808) (h1 : a1 < 9223372036854775808) (h2 : a2 < 9223372036854775808) (h3 : a3 < 9223372036854775808) (h4 : a4 < 9223372036854775808) :
    Bnd 2 (crd a0 a1 a2 a3 a4).a0 (crd a0 a1 a2 a3 a4).a1 (crd a0 a1 a2 a3 a4).a2 (crd a0 a1 a2 a3 a4).a3 (crd a0 a1 a2 a3 a4).a4 ∧ ∃ k, valN (crd a0 a1 a2 a3 a4).a0 (crd a0 a1 a2 a3 a4).a1 (crd a0 a1 a2 a3 a4).a2 (crd a0 a1 a2 a3 a4).a3 (crd a0 a1 a2 a3 a4).a4 + k * pr = valN a0 a1 a2 a3 a4 := by
  obtain ⟨p1, k, p2⟩ := rn_spec (k := 0) (n := valN a0 a1 a2 a3 a4) (show Bnd 0 a0 a1 a2 a3 a4 from ⟨by omega, h0, h1, h2, h3, h4, fun h => by omega, fun h => by omega⟩) (by omega) (by simp)
  exact rn_spec p1 (by omega) p2

theorem set_blk {w : World} {g : Nat} {t : TypeId} {cs ds : Array Value} (h : w.heap[g]? = some (.cells cs t (0, 0))) (i : Nat) (u v : Value) (hd : (cs.setIfInBounds i u).setIfInBounds i v = ds) : ((w.setCell ⟨g, i, none⟩ u).setCell ⟨g, i, none⟩ v).heap[g]? = some (.cells ds t (0, 0)) := by
  rw [← hd]; exact heap_set (heap_set h i u) i v
theorem set_blk1 {w : World} {g : Nat} {t : TypeId} {cs ds : Array Value} (h : w.heap[g]? = some (.cells cs t (0, 0))) (i : Nat) (u : Value) (hd : cs.setIfInBounds i u = ds) : (w.setCell ⟨g, i, none⟩ u).heap[g]? = some (.cells ds t (0, 0)) := by
  rw [← hd]; exact heap_set h i u
theorem set_far {w : World} {g g' : Nat} {o : Obj} (h : w.heap[g]? = some o) (i : Nat) (u : Value) (hne : g ≠ g') : (w.setCell ⟨g', i, none⟩ u).heap[g]? = some o := by
  rw [Below.heap_setCell _ _ _ _ hne]; exact h

theorem alloc_at {w : World} {o : Obj} {n : Nat} (h : w.heap.size = n) : (w.alloc o).heap[n]? = some o := by
  subst h; exact heap_alloc_new _ _
theorem set_all {w : World} {g : Nat} {t : TypeId} {x0 x1 x2 x3 x4 : Value} (h : w.heap[g]? = some (.cells #[x0, x1, x2, x3, x4] t (0, 0))) (v0 v1 v2 v3 v4 : Value) :
    (((((w.setCell ⟨g, 0, none⟩ v0).setCell ⟨g, 1, none⟩ v1).setCell ⟨g, 2, none⟩ v2).setCell ⟨g, 3, none⟩ v3).setCell ⟨g, 4, none⟩ v4).heap[g]? = some (.cells #[v0, v1, v2, v3, v4] t (0, 0)) :=
  heap_set (heap_set (heap_set (heap_set (heap_set h 0 v0) 1 v1) 2 v2) 3 v3) 4 v4
theorem info33 : (Tryd.prog.info? 33).map (·.size) = some 5 := by kernel_rfl
abbrev c5 (a0 a1 a2 a3 a4 : Nat) : Array Value := #[.int .u64 a0, .int .u64 a1, .int .u64 a2, .int .u64 a3, .int .u64 a4]

set_option maxRecDepth 100000 in
set_option maxHeartbeats 4000000 in
theorem carried_any (a0 a1 a2 a3 a4 : Nat) (w : World) (h0 : a0 < 9223372036854775808) (h1 : a1 < 9223372036854775808) (h2 : a2 < 9223372036854775808) (h3 : a3 < 9223372036854775808) (h4 : a4 < 9223372036854775808) :
    Calls Tryd.prog 56 #[limbsV a0 a1 a2 a3 a4] w fun r w' => r = .returned (crd a0 a1 a2 a3 a4).v ∧ Below w.heap.size w w' := by
  have HB0 := Lib.hid (show Bnd 0 a0 a1 a2 a3 a4 from ⟨by omega, h0, h1, h2, h3, h4, fun h => by omega, fun h => by omega⟩)
  clear h0 h1 h2 h3 h4
  unfold limbsV
  go_enter Tryd.func56, Tryd.ntmps56
  go_wp2
  go_loopw [3, 4, 5, 7] (fun v3 v4 v5 v7 wr => ∃ r b0 b1 b2 b3 b4 : Nat, v5 = .int .i64 r ∧ Bnd r b0 b1 b2 b3 b4 ∧ L5.mk b0 b1 b2 b3 b4 = itr ⟨a0, a1, a2, a3, a4⟩ r ∧
    wr.heap[w.heap.size]? = some (.cells (c5 b0 b1 b2 b3 b4) 31 (0, 0)) ∧ wr.heap[w.heap.size + 1]? = some (.cells (c5 0 0 0 0 0) 33 (0, 0)) ∧ Below w.heap.size w wr) (fun v3 v4 v5 v7 _ => 2 - (intOf v5).toNat)
  case atStart =>
    refine ⟨0, a0, a1, a2, a3, a4, rfl, HB0.out, rfl, ?_, ?_, ?_⟩
    · rw [Below.heap_alloc _ _ _ (by simp)]; exact alloc_at rfl
    · exact alloc_at (by simp)
    · exact ((Below.refl _ _).alloc (Nat.le_refl _) _).alloc (by simp) _
  case round =>
    obtain ⟨r, b0, b1, b2, b3, b4, rfl, hbnd, hval, hh1, hh2, hb⟩ := hrel
    have HBND := Lib.hid hbnd
    have HVAL := Lib.hid hval
    have H1 := Lib.hid hh1
    have H2 := Lib.hid hh2
    have HB := Lib.hid hb
    obtain ⟨r2, z0, z1, z2, z3, z4, _, _⟩ := hbnd
    clear hval hh1 hh2 hb
    by_cases hlt : r < 2
    · go_wp2
      go_loopw [3, 4, 7] (fun v3 v4 v7 wq => ∃ i d0 d1 d2 d3 d4 c : Nat, v7 = .int .i64 i ∧ i ≤ 5 ∧ v3 = .int .u64 c ∧ Mid i b0 b1 b2 b3 b4 d0 d1 d2 d3 d4 c ∧ L6.mk d0 d1 d2 d3 d4 c = stp ⟨b0, b1, b2, b3, b4⟩ i ∧
        wq.heap[w.heap.size]? = some (.cells (c5 d0 d1 d2 d3 d4) 31 (0, 0)) ∧ wq.heap[w.heap.size + 1]? = some (.cells (c5 0 0 0 0 0) 33 (0, 0)) ∧ Below w.heap.size w wq) (fun v3 v4 v7 _ => 5 - (intOf v7).toNat)
      case atStart =>
        exact ⟨0, b0, b1, b2, b3, b4, 0, rfl, by omega, rfl, ⟨fun _ => rfl, fun _ => rfl, fun _ => rfl, fun _ => rfl, fun _ => rfl, by omega, by omega, by omega, by omega, by omega, by omega, fun _ => rfl, by omega, by omega, by omega, by omega, by omega⟩, rfl, H1.out, H2.out, HB.out⟩
      case round =>
        obtain ⟨i, d0, d1, d2, d3, d4, c, rfl, hi, rfl, hm, hst, hh1, hh2, hb⟩ := hrel
        have GS := Lib.hid hst
        clear hst
        have G1 := Lib.hid hh1
        have G2 := Lib.hid hh2
        have GB := Lib.hid hb
        have GM := Lib.hid hm
        have hc := hm.cc
        have hlw := heap_lt hh1
        clear hh2 hb
        have hi' : i = 0 ∨ i = 1 ∨ i = 2 ∨ i = 3 ∨ i = 4 ∨ i = 5 := by omega
        rcases hi' with rfl | rfl | rfl | rfl | rfl | rfl
        · have hbd : d0 < 9223372036854775808 := by have := hm.e0 (by omega); omega
          have GN := Lib.hid (mid_next0 hm hbd)
          have x : wr.cell? ⟨w.heap.size, 0, none⟩ = some (.int .u64 d0) := cell_of_blk hh1 0 rfl
          have f : wr.frozen? ⟨w.heap.size, 0, none⟩ = false := frozen_of_blk hh1 0
          clear hm hh1
          go_wp2
          go_roundw
          case rel =>
            refine ⟨1, (d0 + c) % 2251799813685248, d1, d2, d3, d4, (d0 + c) / 2251799813685248, rfl, by omega, by rw [quo_of _ (d0 + c) (by omega)], GN.out, by rw [stp, ← GS.out]; rfl, ?_, ?_, ?_⟩
            · exact set_blk G1.out 0 _ _ (by rw [mask_of _ (d0 + c) (by omega) (by omega)]; rfl)
            · exact set_far (set_far G2.out _ _ (by omega)) _ _ (by omega)
            · exact (GB.out.setCell (Nat.le_refl _) _).setCell (Nat.le_refl _) _
          case measure => simp [intOf]
        · have hbd : d1 < 9223372036854775808 := by have := hm.e1 (by omega); omega
          have GN := Lib.hid (mid_next1 hm hbd)
          have x : wr.cell? ⟨w.heap.size, 1, none⟩ = some (.int .u64 d1) := cell_of_blk hh1 1 rfl
          have f : wr.frozen? ⟨w.heap.size, 1, none⟩ = false := frozen_of_blk hh1 1
          clear hm hh1
          go_wp2
          go_roundw
          case rel =>
            refine ⟨2, d0, (d1 + c) % 2251799813685248, d2, d3, d4, (d1 + c) / 2251799813685248, rfl, by omega, by rw [quo_of _ (d1 + c) (by omega)], GN.out, by rw [stp, ← GS.out]; rfl, ?_, ?_, ?_⟩
            · exact set_blk G1.out 1 _ _ (by rw [mask_of _ (d1 + c) (by omega) (by omega)]; rfl)
            · exact set_far (set_far G2.out _ _ (by omega)) _ _ (by omega)
            · exact (GB.out.setCell (Nat.le_refl _) _).setCell (Nat.le_refl _) _
          case measure => simp [intOf]
        · have hbd : d2 < 9223372036854775808 := by have := hm.e2 (by omega); omega
          have GN := Lib.hid (mid_next2 hm hbd)
          have x : wr.cell? ⟨w.heap.size, 2, none⟩ = some (.int .u64 d2) := cell_of_blk hh1 2 rfl
          have f : wr.frozen? ⟨w.heap.size, 2, none⟩ = false := frozen_of_blk hh1 2
          clear hm hh1
          go_wp2
          go_roundw
          case rel =>
            refine ⟨3, d0, d1, (d2 + c) % 2251799813685248, d3, d4, (d2 + c) / 2251799813685248, rfl, by omega, by rw [quo_of _ (d2 + c) (by omega)], GN.out, by rw [stp, ← GS.out]; rfl, ?_, ?_, ?_⟩
            · exact set_blk G1.out 2 _ _ (by rw [mask_of _ (d2 + c) (by omega) (by omega)]; rfl)
            · exact set_far (set_far G2.out _ _ (by omega)) _ _ (by omega)
            · exact (GB.out.setCell (Nat.le_refl _) _).setCell (Nat.le_refl _) _
          case measure => simp [intOf]
        · have hbd : d3 < 9223372036854775808 := by have := hm.e3 (by omega); omega
          have GN := Lib.hid (mid_next3 hm hbd)
          have x : wr.cell? ⟨w.heap.size, 3, none⟩ = some (.int .u64 d3) := cell_of_blk hh1 3 rfl
          have f : wr.frozen? ⟨w.heap.size, 3, none⟩ = false := frozen_of_blk hh1 3
          clear hm hh1
          go_wp2
          go_roundw
          case rel =>
            refine ⟨4, d0, d1, d2, (d3 + c) % 2251799813685248, d4, (d3 + c) / 2251799813685248, rfl, by omega, by rw [quo_of _ (d3 + c) (by omega)], GN.out, by rw [stp, ← GS.out]; rfl, ?_, ?_, ?_⟩
            · exact set_blk G1.out 3 _ _ (by rw [mask_of _ (d3 + c) (by omega) (by omega)]; rfl)
            · exact set_far (set_far G2.out _ _ (by omega)) _ _ (by omega)
            · exact (GB.out.setCell (Nat.le_refl _) _).setCell (Nat.le_refl _) _
          case measure => simp [intOf]
        · have hbd : d4 < 9223372036854775808 := by have := hm.e4 (by omega); omega
          have GN := Lib.hid (mid_next4 hm hbd)
          have x : wr.cell? ⟨w.heap.size, 4, none⟩ = some (.int .u64 d4) := cell_of_blk hh1 4 rfl
          have f : wr.frozen? ⟨w.heap.size, 4, none⟩ = false := frozen_of_blk hh1 4
          clear hm hh1
          go_wp2
          go_roundw
          case rel =>
            refine ⟨5, d0, d1, d2, d3, (d4 + c) % 2251799813685248, (d4 + c) / 2251799813685248, rfl, by omega, by rw [quo_of _ (d4 + c) (by omega)], GN.out, by rw [stp, ← GS.out]; rfl, ?_, ?_, ?_⟩
            · exact set_blk G1.out 4 _ _ (by rw [mask_of _ (d4 + c) (by omega) (by omega)]; rfl)
            · exact set_far (set_far G2.out _ _ (by omega)) _ _ (by omega)
            · exact (GB.out.setCell (Nat.le_refl _) _).setCell (Nat.le_refl _) _
          case measure => simp [intOf]
        · have x : wr.cell? ⟨w.heap.size, 0, none⟩ = some (.int .u64 d0) := cell_of_blk hh1 0 rfl
          have f : wr.frozen? ⟨w.heap.size, 0, none⟩ = false := frozen_of_blk hh1 0
          have hd0 := hm.s0 (by omega)
          have GN := Lib.hid (bnd_next HBND.out hm hlt)
          have GV := Lib.hid (show L5.mk (d0 + 19 * c) d1 d2 d3 d4 = itr ⟨a0, a1, a2, a3, a4⟩ (r + 1) by rw [itr, ← HVAL.out, rn, ← GS.out])
          clear hm hh1
          go_wp2
          go_roundw
          case rel =>
            refine ⟨r + 1, d0 + 19 * c, d1, d2, d3, d4, by go_num, GN.out, GV.out, ?_, ?_, ?_⟩
            · exact set_blk1 G1.out 0 _ (by simp)
            · exact set_far G2.out _ _ (by omega)
            · exact GB.out.setCell (Nat.le_refl _) _
          case measure => simp [intOf]; omega
    · obtain rfl : r = 2 := by omega
      have x0 : wr.cell? ⟨w.heap.size, 0, none⟩ = some (.int .u64 b0) := cell_of_blk H1.out 0 rfl
      have x1 : wr.cell? ⟨w.heap.size, 1, none⟩ = some (.int .u64 b1) := cell_of_blk H1.out 1 rfl
      have x2 : wr.cell? ⟨w.heap.size, 2, none⟩ = some (.int .u64 b2) := cell_of_blk H1.out 2 rfl
      have x3 : wr.cell? ⟨w.heap.size, 3, none⟩ = some (.int .u64 b3) := cell_of_blk H1.out 3 rfl
      have x4 : wr.cell? ⟨w.heap.size, 4, none⟩ = some (.int .u64 b4) := cell_of_blk H1.out 4 rfl
      have y0 : wr.cell? ⟨w.heap.size + 1, 0, none⟩ = some (.int .u64 0) := cell_of_blk H2.out 0 rfl
      have y1 : wr.cell? ⟨w.heap.size + 1, 1, none⟩ = some (.int .u64 0) := cell_of_blk H2.out 1 rfl
      have y2 : wr.cell? ⟨w.heap.size + 1, 2, none⟩ = some (.int .u64 0) := cell_of_blk H2.out 2 rfl
      have y3 : wr.cell? ⟨w.heap.size + 1, 3, none⟩ = some (.int .u64 0) := cell_of_blk H2.out 3 rfl
      have y4 : wr.cell? ⟨w.heap.size + 1, 4, none⟩ = some (.int .u64 0) := cell_of_blk H2.out 4 rfl
      have f0 := frozen_of_blk H2.out 0
      have f1 := frozen_of_blk H2.out 1
      have f2 := frozen_of_blk H2.out 2
      have f3 := frozen_of_blk H2.out 3
      have f4 := frozen_of_blk H2.out 4
      go_wp2
      try simp only [Exit.inBlock, Exit.then]
      refine bodyPost_ret (results_cell_row rfl _ _ (w.heap.size + 1) 33 _ (0, 0) _ rfl (set_all H2.out _ _ _ _ _) Tryd.underlying33 rfl info33) rfl ?_
      exact ⟨by rw [L5.v, crd, ← HVAL.out]; rfl, ((((HB.out.setCell (by simp) _).setCell (by simp) _).setCell (by simp) _).setCell (by simp) _).setCell (by simp) _⟩

end Go.Proofs.YtdmioipdmdmkhaaDoor
