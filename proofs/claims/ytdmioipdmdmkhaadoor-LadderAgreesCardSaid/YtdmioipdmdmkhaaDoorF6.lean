/- The ladder's example: the public key of nine, reckoned out. -/
import Derived.Test.YtdmioipdmdmkhaaDoorF5
import Derived.Test.YtdmioipdmdmkhaaDoorP1
set_option linter.unusedVariables false
set_option linter.unusedSimpArgs false
namespace Go.Proofs.YtdmioipdmdmkhaaDoor
open Go.RowKit
def rawE (c : Nat → Nat) (u : Nat) : Nat := (ladSw (ladS c u 255).l (ladS c u 255)).a * pm pr (ladSw (ladS c u 255).l (ladS c u 255)).b 255 invE % pr
theorem rawE_eq (c : Nat → Nat) (u : Nat) : rawN c u = rawE c u := by
  unfold rawN rawE powP
  rw [pm_eq (by decide) 255 invE (by decide)]
theorem nine_num : kVal nineF % two255 % pr = 9 := by decide +kernel
set_option maxRecDepth 100000 in
theorem base_num : rawE (clampF nineF) 9 = 54815864700279561125610391355931320566748822376190344121911385527384361806914 := by decide +kernel
theorem nine_shared : sharedN nineF nineF = 54815864700279561125610391355931320566748822376190344121911385527384361806914 := by
  unfold sharedN
  rw [nine_num, rawE_eq, base_num]
theorem hi_first : hiN (byteOf (sharedN nineF nineF)) 0 4 = 1110216314 := by rw [nine_shared]; decide +kernel
theorem hi_last : hiN (byteOf (sharedN nineF nineF)) 28 4 = 296628345 := by rw [nine_shared]; decide +kernel
def fiveF : Nat → Nat := fun i => if i = 0 then 5 else 0
theorem fiveF_lt : ∀ b, b < 32 → fiveF b < 256 := fun b _ => by unfold fiveF; split <;> omega
theorem zero_num : kVal zeroF % two255 % pr = 0 := by decide +kernel
set_option maxRecDepth 100000 in
theorem five_num : rawE (clampF fiveF) 0 = 0 := by decide +kernel
theorem five_shared : sharedN fiveF zeroF = 0 := by
  unfold sharedN
  rw [zero_num, rawE_eq, five_num]
theorem five_e : multE fiveF zeroF = 30 := by
  unfold multE multOK
  rw [five_shared]
  simp
/-- All octets below k are 255. -/
def ffF (k : Nat) : Nat → Nat := fun j => if j < k then 255 else 0
theorem ffF_lt (k : Nat) : ∀ b, b < 32 → ffF k b < 256 := fun b _ => by unfold ffF; split <;> omega
theorem ffF_set {k : Nat} (h : k < 32) : (kArr (ffF k)).setIfInBounds (0 + k * 1) (.int .u8 255) = kArr (ffF (k + 1)) := by
  have e : 0 + k * 1 = k := by omega
  rw [e]
  refine (kArr_upd (ffF k) h 255).trans (kArr_congr fun b _ => ?_)
  unfold upd ffF
  by_cases h1 : b = k
  · subst h1; simp
  · simp only [if_neg h1]
    by_cases h2 : b < k
    · rw [if_pos h2, if_pos (by omega)]
    · rw [if_neg h2, if_neg (by omega)]
/-- The prime's own octets. -/
def prF : Nat → Nat := upd (upd (ffF 32) 0 237) 31 127
theorem prF_lt : ∀ b, b < 32 → prF b < 256 := fun b hb => by
  unfold prF upd
  have := ffF_lt 32 b hb
  split
  · omega
  · split
    · omega
    · exact this
theorem prF_e : multE fiveF prF = 30 := by
  have h : decide (kVal prF < pr) = false := by decide +kernel
  unfold multE multOK
  rw [h]; rfl
end Go.Proofs.YtdmioipdmdmkhaaDoor
