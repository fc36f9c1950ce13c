/- Of of package field. -/
import Derived.Test.YtdmioipdmdmkhaaDoorA11
import Derived.Deep.MidRow
import Derived.Laws.ResultCell
set_option linter.unusedVariables false
set_option linter.unusedSimpArgs false
namespace Go.Proofs.YtdmioipdmdmkhaaDoor
open Go.RowKit

/-- The bytes, the highest bit struck. -/
def clr (f : Nat → Nat) (b : Nat) : Nat := if b < 31 then f b else if b = 31 then f 31 % 128 else 0
theorem clr_lt {f : Nat → Nat} (hf : ∀ b, b < 32 → f b < 256) (b : Nat) : clr f b < 256 := by
  unfold clr
  split
  · exact hf b (by omega)
  · split
    · have := hf 31 (by omega); omega
    · omega
theorem kNum_congr {f g : Nat → Nat} : ∀ n, (∀ b, b < n → f b = g b) → kNum f n = kNum g n
  | 0, _ => rfl
  | n + 1, h => by rw [kNum, kNum, kNum_congr n (fun b hb => h b (by omega)), h n (by omega)]
theorem kNum_shift (f : Nat → Nat) (a : Nat) (hf : ∀ b, f b < 256) : ∀ n, kNum (fun j => f (a + j)) n = kNum f (a + n) / 256 ^ a
  | 0 => by
    rw [kNum, Nat.add_zero, Nat.div_eq_of_lt (kNum_lt a (fun b _ => hf b))]
  | n + 1 => by
    rw [kNum, kNum_shift f a hf n, ← Nat.add_assoc, kNum, Nat.pow_add, ← Nat.mul_assoc, Nat.mul_right_comm, Nat.add_mul_div_right _ _ (Nat.pow_pos (by omega))]
theorem kNum_mod (f : Nat → Nat) (hf : ∀ b, f b < 256) (a : Nat) : ∀ n, a ≤ n → kNum f n % 256 ^ a = kNum f a
  | 0, h => by
    obtain rfl : a = 0 := by omega
    simp [kNum]
  | n + 1, h => by
    by_cases e : a = n + 1
    · subst e; exact Nat.mod_eq_of_lt (kNum_lt _ (fun b _ => hf b))
    · obtain ⟨d, hd⟩ : ∃ d, n = a + d := ⟨n - a, by omega⟩
      rw [kNum, hd, Nat.pow_add, ← Nat.mul_assoc, Nat.mul_right_comm, Nat.add_mul_mod_self_right, ← hd]
      exact kNum_mod f hf a n (by omega)
theorem byteOf_kNum (f : Nat → Nat) (hf : ∀ b, f b < 256) {b n : Nat} (h : b < n) : byteOf (kNum f n) b = f b := by
  unfold byteOf
  have h1 := kNum_mod f hf (b + 1) n (by omega)
  have h2 : kNum f n / 256 ^ b % 256 = kNum f n % 256 ^ (b + 1) / 256 ^ b := by rw [Nat.pow_succ, Nat.mod_mul_right_div_self]
  rw [h2, h1, kNum, Nat.add_mul_div_right _ _ (Nat.pow_pos (by omega)), Nat.div_eq_of_lt (kNum_lt b (fun c _ => hf c)), Nat.zero_add]
/-- The number of a key. -/
def kVal (f : Nat → Nat) : Nat := kNum f 32
theorem kNum_clr (f : Nat → Nat) (hf : ∀ b, b < 32 → f b < 256) : kNum (clr f) 32 = kVal f % 57896044618658097711785492504343953926634992332820282019728792003956564819968 ∧ kNum (clr f) 33 = kNum (clr f) 32 := by
  constructor
  · unfold kVal
    rw [show kNum (clr f) 32 = kNum (clr f) 31 + clr f 31 * 256 ^ 31 from rfl, show kNum f 32 = kNum f 31 + f 31 * 256 ^ 31 from rfl]
    have e := kNum_congr (f := clr f) (g := f) 31 (fun b hb => by unfold clr; rw [if_pos hb])
    have l := kNum_lt (f := f) 31 (fun b hb => hf b (by omega))
    have h31 := hf 31 (by omega)
    rw [e, show clr f 31 = f 31 % 128 from by unfold clr; rw [if_neg (by omega), if_pos rfl]]
    simp only [Nat.reducePow] at l ⊢
    omega
  · rw [kNum, show clr f 32 = 0 from by unfold clr; rw [if_neg (by omega), if_neg (by omega)]]
    omega
theorem le8 (f : Nat → Nat) (hf : ∀ b, f b < 256) (a : Nat) (h : kNum f 33 = kNum f 32) (ha : a + 8 ≤ 33) : kNum (fun j => f (a + j)) 8 = kNum f 32 / 256 ^ a % 18446744073709551616 := by
  rw [kNum_shift f a hf 8, ← kNum_mod f hf (a + 8) 33 ha, h, Nat.pow_add, Nat.mod_mul_right_div_self]

theorem ext0 (h : Nat → Nat) : ((kArr h).extract 0 (0 + 32)).toList = [.int .u8 (h 0 : Nat), .int .u8 (h 1 : Nat), .int .u8 (h 2 : Nat), .int .u8 (h 3 : Nat), .int .u8 (h 4 : Nat), .int .u8 (h 5 : Nat), .int .u8 (h 6 : Nat), .int .u8 (h 7 : Nat), .int .u8 (h 8 : Nat), .int .u8 (h 9 : Nat), .int .u8 (h 10 : Nat), .int .u8 (h 11 : Nat), .int .u8 (h 12 : Nat), .int .u8 (h 13 : Nat), .int .u8 (h 14 : Nat), .int .u8 (h 15 : Nat), .int .u8 (h 16 : Nat), .int .u8 (h 17 : Nat), .int .u8 (h 18 : Nat), .int .u8 (h 19 : Nat), .int .u8 (h 20 : Nat), .int .u8 (h 21 : Nat), .int .u8 (h 22 : Nat), .int .u8 (h 23 : Nat), .int .u8 (h 24 : Nat), .int .u8 (h 25 : Nat), .int .u8 (h 26 : Nat), .int .u8 (h 27 : Nat), .int .u8 (h 28 : Nat), .int .u8 (h 29 : Nat), .int .u8 (h 30 : Nat), .int .u8 (h 31 : Nat)] := by kernel_rfl
theorem limb_of0 (X : Nat) : X / 256 ^ 0 % 18446744073709551616 / 1 % 2251799813685248 = X / 1 % 2251799813685248 := by
  rw [show X / 1 = X / 256 ^ 0 / 1 from by rw [Nat.div_div_eq_div_mul]]
  generalize X / 256 ^ 0 = Y
  omega
theorem ext1 (h : Nat → Nat) : ((kArr h).extract 6 (6 + 26)).toList = [.int .u8 (h 6 : Nat), .int .u8 (h 7 : Nat), .int .u8 (h 8 : Nat), .int .u8 (h 9 : Nat), .int .u8 (h 10 : Nat), .int .u8 (h 11 : Nat), .int .u8 (h 12 : Nat), .int .u8 (h 13 : Nat), .int .u8 (h 14 : Nat), .int .u8 (h 15 : Nat), .int .u8 (h 16 : Nat), .int .u8 (h 17 : Nat), .int .u8 (h 18 : Nat), .int .u8 (h 19 : Nat), .int .u8 (h 20 : Nat), .int .u8 (h 21 : Nat), .int .u8 (h 22 : Nat), .int .u8 (h 23 : Nat), .int .u8 (h 24 : Nat), .int .u8 (h 25 : Nat), .int .u8 (h 26 : Nat), .int .u8 (h 27 : Nat), .int .u8 (h 28 : Nat), .int .u8 (h 29 : Nat), .int .u8 (h 30 : Nat), .int .u8 (h 31 : Nat)] := by kernel_rfl
theorem limb_of1 (X : Nat) : X / 256 ^ 6 % 18446744073709551616 / 8 % 2251799813685248 = X / 2251799813685248 % 2251799813685248 := by
  rw [show X / 2251799813685248 = X / 256 ^ 6 / 8 from by rw [Nat.div_div_eq_div_mul]]
  generalize X / 256 ^ 6 = Y
  omega
theorem ext2 (h : Nat → Nat) : ((kArr h).extract 12 (12 + 20)).toList = [.int .u8 (h 12 : Nat), .int .u8 (h 13 : Nat), .int .u8 (h 14 : Nat), .int .u8 (h 15 : Nat), .int .u8 (h 16 : Nat), .int .u8 (h 17 : Nat), .int .u8 (h 18 : Nat), .int .u8 (h 19 : Nat), .int .u8 (h 20 : Nat), .int .u8 (h 21 : Nat), .int .u8 (h 22 : Nat), .int .u8 (h 23 : Nat), .int .u8 (h 24 : Nat), .int .u8 (h 25 : Nat), .int .u8 (h 26 : Nat), .int .u8 (h 27 : Nat), .int .u8 (h 28 : Nat), .int .u8 (h 29 : Nat), .int .u8 (h 30 : Nat), .int .u8 (h 31 : Nat)] := by kernel_rfl
theorem limb_of2 (X : Nat) : X / 256 ^ 12 % 18446744073709551616 / 64 % 2251799813685248 = X / 5070602400912917605986812821504 % 2251799813685248 := by
  rw [show X / 5070602400912917605986812821504 = X / 256 ^ 12 / 64 from by rw [Nat.div_div_eq_div_mul]]
  generalize X / 256 ^ 12 = Y
  omega
theorem ext3 (h : Nat → Nat) : ((kArr h).extract 19 (19 + 13)).toList = [.int .u8 (h 19 : Nat), .int .u8 (h 20 : Nat), .int .u8 (h 21 : Nat), .int .u8 (h 22 : Nat), .int .u8 (h 23 : Nat), .int .u8 (h 24 : Nat), .int .u8 (h 25 : Nat), .int .u8 (h 26 : Nat), .int .u8 (h 27 : Nat), .int .u8 (h 28 : Nat), .int .u8 (h 29 : Nat), .int .u8 (h 30 : Nat), .int .u8 (h 31 : Nat)] := by kernel_rfl
theorem limb_of3 (X : Nat) : X / 256 ^ 19 % 18446744073709551616 / 2 % 2251799813685248 = X / 11417981541647679048466287755595961091061972992 % 2251799813685248 := by
  rw [show X / 11417981541647679048466287755595961091061972992 = X / 256 ^ 19 / 2 from by rw [Nat.div_div_eq_div_mul]]
  generalize X / 256 ^ 19 = Y
  omega
theorem ext4 (h : Nat → Nat) : ((kArr h).extract 25 (25 + 7)).toList = [.int .u8 (h 25 : Nat), .int .u8 (h 26 : Nat), .int .u8 (h 27 : Nat), .int .u8 (h 28 : Nat), .int .u8 (h 29 : Nat), .int .u8 (h 30 : Nat), .int .u8 (h 31 : Nat)] := by kernel_rfl
theorem limb_of4 (X : Nat) : X / 256 ^ 25 % 18446744073709551616 / 16 % 2251799813685248 = X / 25711008708143844408671393477458601640355247900524685364822016 % 2251799813685248 := by
  rw [show X / 25711008708143844408671393477458601640355247900524685364822016 = X / 256 ^ 25 / 16 from by rw [Nat.div_div_eq_div_mul]]
  generalize X / 256 ^ 25 = Y
  omega
theorem limbs_val (X : Nat) (h : X < 57896044618658097711785492504343953926634992332820282019728792003956564819968) : valN (X / 1 % 2251799813685248) (X / 2251799813685248 % 2251799813685248) (X / 5070602400912917605986812821504 % 2251799813685248) (X / 11417981541647679048466287755595961091061972992 % 2251799813685248) (X / 25711008708143844408671393477458601640355247900524685364822016 % 2251799813685248) = X := by
  unfold valN; omega
def lof (X i : Nat) : Nat := X / 2251799813685248 ^ i % 2251799813685248
theorem lof_lt (X i : Nat) : lof X i < 2251799813685248 := Nat.mod_lt _ (by omega)
theorem and127 (a : Nat) (ha : a < 256) : bits .and .u8 (a : Int) 127 = ((a % 128 : Nat) : Int) := by
  have hx : a &&& 127 < 2 ^ 8 := Nat.and_lt_two_pow _ (by omega)
  have h1 : (BitVec.ofInt 8 (a : Int)).toNat = a := by
    rw [BitVec.ofInt_natCast, BitVec.toNat_ofNat]; exact Nat.mod_eq_of_lt (by omega)
  have h2 : (BitVec.ofInt 8 (127 : Int)).toNat = 127 := by decide
  show IntKind.u8.wrap ((BitVec.ofInt 8 (a : Int) &&& BitVec.ofInt 8 (127 : Int)).toNat : Int) = _
  rw [BitVec.toNat_and, h1, h2, u8_of _ (a &&& 127) rfl, show a &&& 127 = a % 128 from Nat.and_two_pow_sub_one_eq_mod a 7]
  omega
/-- The limbs that are made so far. -/
def lArr (X i : Nat) : Array Value := c5 (if 0 < i then lof X 0 else 0) (if 1 < i then lof X 1 else 0) (if 2 < i then lof X 2 else 0) (if 3 < i then lof X 3 else 0) (if 4 < i then lof X 4 else 0)
theorem kArr_clr (f : Nat → Nat) : (kArr f).setIfInBounds 31 (.int .u8 (f 31 % 128 : Nat)) = kArr (clr f) := by rfl
theorem start_of (w : World) (x z y : Array Value) {B1 B2 : Nat} (h1 : w.heap.size + 1 = B1) (h2 : B1 + 1 = B2) : (((w.alloc (.cells x 23)).alloc (.cells z 33)).alloc (.cells y 31)).heap[w.heap.size]? = some (.cells x 23 (0, 0)) ∧
    (((w.alloc (.cells x 23)).alloc (.cells z 33)).alloc (.cells y 31)).heap[B1]? = some (.cells z 33 (0, 0)) ∧ (((w.alloc (.cells x 23)).alloc (.cells z 33)).alloc (.cells y 31)).heap[B2]? = some (.cells y 31 (0, 0)) ∧
    Below w.heap.size w (((w.alloc (.cells x 23)).alloc (.cells z 33)).alloc (.cells y 31)) := by
  subst h1 h2
  refine ⟨?_, ?_, alloc_at (by simp), (((alloc_only w _).alloc (by simp) _).alloc (by simp; omega) _)⟩
  · rw [Below.heap_alloc _ _ _ (by simp; omega), Below.heap_alloc _ _ _ (by simp)]; exact alloc_at rfl
  · rw [Below.heap_alloc _ _ _ (by simp)]; exact alloc_at (by simp)

theorem results_two {P : Program} {fn : Func} {p u : Tmp} {ty : TypeId} (h : fn.results = #[.cell p ty, .tmp u]) (tmps : Array Value) (w : World) (g : Nat) (t : TypeId) (cs : Array Value) (fr : Nat × Nat) (d : TypeDesc)
    (hp : tmps.getD p undef = .pointer (some ⟨g, 0, none⟩)) (hg : w.heap[g]? = some (.cells cs t fr))
    (hu : P.underlying ty = some d) (hd : (match d with | .struct _ | .array _ _ => true | _ => false) = true) (hi : (P.info? ty).map (·.size) = some cs.size) :
    (results fn tmps).run P w = .ok (.tuple #[.agg cs, tmps.getD u undef]) w := by
  rw [results_cell_tmp h, hp]
  simp only [asAddr, Sem.run_pure, Result.andThen_ok, run_loadVar_row w g t ty cs fr d hg hu hd hi]
theorem eq23 (g h : Nat → Nat) (w : World) : (Op.equalIn 10000 23 (.agg (kArr g)) (.agg (kArr h))).run Tryd.prog w = .ok (decide ([(g 0 : Int), (g 1 : Int), (g 2 : Int), (g 3 : Int), (g 4 : Int), (g 5 : Int), (g 6 : Int), (g 7 : Int), (g 8 : Int), (g 9 : Int), (g 10 : Int), (g 11 : Int), (g 12 : Int), (g 13 : Int), (g 14 : Int), (g 15 : Int), (g 16 : Int), (g 17 : Int), (g 18 : Int), (g 19 : Int), (g 20 : Int), (g 21 : Int), (g 22 : Int), (g 23 : Int), (g 24 : Int), (g 25 : Int), (g 26 : Int), (g 27 : Int), (g 28 : Int), (g 29 : Int), (g 30 : Int), (g 31 : Int)] = [(h 0 : Int), (h 1 : Int), (h 2 : Int), (h 3 : Int), (h 4 : Int), (h 5 : Int), (h 6 : Int), (h 7 : Int), (h 8 : Int), (h 9 : Int), (h 10 : Int), (h 11 : Int), (h 12 : Int), (h 13 : Int), (h 14 : Int), (h 15 : Int), (h 16 : Int), (h 17 : Int), (h 18 : Int), (h 19 : Int), (h 20 : Int), (h 21 : Int), (h 22 : Int), (h 23 : Int), (h 24 : Int), (h 25 : Int), (h 26 : Int), (h 27 : Int), (h 28 : Int), (h 29 : Int), (h 30 : Int), (h 31 : Int)])) w := by
  obtain ⟨i0, hi0, _⟩ := info_parts info5
  exact eq_ints (P := Tryd.prog) Tryd.underlying23 Tryd.underlying5 hi0 (by kernel_rfl) [(g 0 : Int), (g 1 : Int), (g 2 : Int), (g 3 : Int), (g 4 : Int), (g 5 : Int), (g 6 : Int), (g 7 : Int), (g 8 : Int), (g 9 : Int), (g 10 : Int), (g 11 : Int), (g 12 : Int), (g 13 : Int), (g 14 : Int), (g 15 : Int), (g 16 : Int), (g 17 : Int), (g 18 : Int), (g 19 : Int), (g 20 : Int), (g 21 : Int), (g 22 : Int), (g 23 : Int), (g 24 : Int), (g 25 : Int), (g 26 : Int), (g 27 : Int), (g 28 : Int), (g 29 : Int), (g 30 : Int), (g 31 : Int)] [(h 0 : Int), (h 1 : Int), (h 2 : Int), (h 3 : Int), (h 4 : Int), (h 5 : Int), (h 6 : Int), (h 7 : Int), (h 8 : Int), (h 9 : Int), (h 10 : Int), (h 11 : Int), (h 12 : Int), (h 13 : Int), (h 14 : Int), (h 15 : Int), (h 16 : Int), (h 17 : Int), (h 18 : Int), (h 19 : Int), (h 20 : Int), (h 21 : Int), (h 22 : Int), (h 23 : Int), (h 24 : Int), (h 25 : Int), (h 26 : Int), (h 27 : Int), (h 28 : Int), (h 29 : Int), (h 30 : Int), (h 31 : Int)] rfl rfl 9998 w
theorem eq23_iff (g h : Nat → Nat) : [(g 0 : Int), (g 1 : Int), (g 2 : Int), (g 3 : Int), (g 4 : Int), (g 5 : Int), (g 6 : Int), (g 7 : Int), (g 8 : Int), (g 9 : Int), (g 10 : Int), (g 11 : Int), (g 12 : Int), (g 13 : Int), (g 14 : Int), (g 15 : Int), (g 16 : Int), (g 17 : Int), (g 18 : Int), (g 19 : Int), (g 20 : Int), (g 21 : Int), (g 22 : Int), (g 23 : Int), (g 24 : Int), (g 25 : Int), (g 26 : Int), (g 27 : Int), (g 28 : Int), (g 29 : Int), (g 30 : Int), (g 31 : Int)] = [(h 0 : Int), (h 1 : Int), (h 2 : Int), (h 3 : Int), (h 4 : Int), (h 5 : Int), (h 6 : Int), (h 7 : Int), (h 8 : Int), (h 9 : Int), (h 10 : Int), (h 11 : Int), (h 12 : Int), (h 13 : Int), (h 14 : Int), (h 15 : Int), (h 16 : Int), (h 17 : Int), (h 18 : Int), (h 19 : Int), (h 20 : Int), (h 21 : Int), (h 22 : Int), (h 23 : Int), (h 24 : Int), (h 25 : Int), (h 26 : Int), (h 27 : Int), (h 28 : Int), (h 29 : Int), (h 30 : Int), (h 31 : Int)] ↔ ∀ b, b < 32 → g b = h b := by
  simp only [List.cons.injEq, and_true, Int.natCast_inj]
  constructor
  · rintro ⟨e0, e1, e2, e3, e4, e5, e6, e7, e8, e9, e10, e11, e12, e13, e14, e15, e16, e17, e18, e19, e20, e21, e22, e23, e24, e25, e26, e27, e28, e29, e30, e31⟩ b hb
    have hb' : b = 0 ∨ b = 1 ∨ b = 2 ∨ b = 3 ∨ b = 4 ∨ b = 5 ∨ b = 6 ∨ b = 7 ∨ b = 8 ∨ b = 9 ∨ b = 10 ∨ b = 11 ∨ b = 12 ∨ b = 13 ∨ b = 14 ∨ b = 15 ∨ b = 16 ∨ b = 17 ∨ b = 18 ∨ b = 19 ∨ b = 20 ∨ b = 21 ∨ b = 22 ∨ b = 23 ∨ b = 24 ∨ b = 25 ∨ b = 26 ∨ b = 27 ∨ b = 28 ∨ b = 29 ∨ b = 30 ∨ b = 31 := by omega
    rcases hb' with rfl | rfl | rfl | rfl | rfl | rfl | rfl | rfl | rfl | rfl | rfl | rfl | rfl | rfl | rfl | rfl | rfl | rfl | rfl | rfl | rfl | rfl | rfl | rfl | rfl | rfl | rfl | rfl | rfl | rfl | rfl | rfl
    all_goals assumption
  · intro h; exact ⟨h 0 (by omega), h 1 (by omega), h 2 (by omega), h 3 (by omega), h 4 (by omega), h 5 (by omega), h 6 (by omega), h 7 (by omega), h 8 (by omega), h 9 (by omega), h 10 (by omega), h 11 (by omega), h 12 (by omega), h 13 (by omega), h 14 (by omega), h 15 (by omega), h 16 (by omega), h 17 (by omega), h 18 (by omega), h 19 (by omega), h 20 (by omega), h 21 (by omega), h 22 (by omega), h 23 (by omega), h 24 (by omega), h 25 (by omega), h 26 (by omega), h 27 (by omega), h 28 (by omega), h 29 (by omega), h 30 (by omega), h 31 (by omega)⟩
theorem kNum_inj (f g : Nat → Nat) : ∀ n, (∀ b, b < n → f b = g b) → kNum f n = kNum g n := fun n h => kNum_congr n h
theorem kNum_bytes (x : Nat) : ∀ n, x < 256 ^ n → kNum (byteOf x) n = x := by
  have gen : ∀ n, kNum (byteOf x) n = x % 256 ^ n := by
    intro n
    induction n with
    | zero => simp [kNum, Nat.mod_one]
    | succ n ih =>
      rw [kNum, ih, byteOf, Nat.pow_succ, Nat.mod_mul, Nat.mul_comm (256 ^ n)]
  intro n h
  rw [gen, Nat.mod_eq_of_lt h]
theorem whole_cases {f : Nat → Nat} {X : Nat} (hf : ∀ b, b < 32 → f b < 256) (hX : X = kVal f % 57896044618658097711785492504343953926634992332820282019728792003956564819968) (hXX : X = kNum (clr f) 32) :
    (decide (kVal f < pr) = false ∧ ((f 31 : Int) / 128 == 0) = false) ∨ (((f 31 : Int) / 128 == 0) = true ∧ ∀ w, (Op.equalIn 10000 23 (.agg (kArr (byteOf (X % pr)))) (.agg (kArr (clr f)))).run Tryd.prog w = .ok (decide (kVal f < pr)) w) := by
  have h31 := hf 31 (by omega)
  have l := kNum_lt (f := f) 31 (fun b hb => hf b (by omega))
  have hv : kVal f = kNum f 31 + f 31 * 256 ^ 31 := rfl
  simp only [Nat.reducePow] at l hv
  by_cases ht : f 31 < 128
  · right
    refine ⟨by rw [beq_iff_eq]; omega, fun w => ?_⟩
    have hlt : kVal f < 57896044618658097711785492504343953926634992332820282019728792003956564819968 := by omega
    rw [Nat.mod_eq_of_lt hlt] at hX
    rw [eq23]
    congr 1
    rw [Bool.eq_iff_iff, decide_eq_true_eq, decide_eq_true_eq, eq23_iff]
    have hc := clr_lt hf
    constructor
    · intro h
      have e := kNum_congr 32 h
      rw [kNum_bytes _ 32 (Nat.lt_of_lt_of_le (Nat.mod_lt _ pr_pos) (by unfold pr; simp only [Nat.reducePow]; omega)), ← hXX] at e
      rw [← hX, ← e]
      exact Nat.mod_lt _ pr_pos
    · intro h b hb
      rw [Nat.mod_eq_of_lt (by omega), hXX]
      exact byteOf_kNum _ hc hb
  · left
    refine ⟨decide_eq_false (by unfold pr; omega), ?_⟩
    rw [beq_eq_false_iff_ne]
    omega

/-- The limbs of a key. -/
def ofL (f : Nat → Nat) : L5 := crd (lof (kNum (clr f) 32) 0) (lof (kNum (clr f) 32) 1) (lof (kNum (clr f) 32) 2) (lof (kNum (clr f) 32) 3) (lof (kNum (clr f) 32) 4)
theorem ofL_el {f : Nat → Nat} (hf : ∀ b, b < 32 → f b < 256) : El (ofL f).v (kVal f % 57896044618658097711785492504343953926634992332820282019728792003956564819968 % pr) := by
  have l0 := lof_lt (kNum (clr f) 32) 0
  have l1 := lof_lt (kNum (clr f) 32) 1
  have l2 := lof_lt (kNum (clr f) 32) 2
  have l3 := lof_lt (kNum (clr f) 32) 3
  have l4 := lof_lt (kNum (clr f) 32) 4
  have hX := (kNum_clr f hf).1
  refine El.crd (by omega) (by omega) (by omega) (by omega) (by omega) ?_
  rw [← hX]
  congr 1
  exact limbs_val _ (by rw [hX]; exact Nat.mod_lt _ (by omega))
end Go.Proofs.YtdmioipdmdmkhaaDoor
