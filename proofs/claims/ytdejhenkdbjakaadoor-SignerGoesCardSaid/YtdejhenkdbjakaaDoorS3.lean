/- Keys of a seed, one behind the other: plain. -/
import Derived.Test.YtdejhenkdbjakaaDoorS2
set_option linter.unusedVariables false
set_option linter.unusedSimpArgs false
namespace Go.Proofs.YtdejhenkdbjakaaDoor
def tgF (n : Nat) : Nat → Nat := shaK ([116, 97, 103] ++ highL n 4)
def dgF (l : List Nat) : Nat → Nat := shaK ([99, 111, 114, 101] ++ l)
def sSign : List Nat := [115, 105, 103, 110]
def sdF (seed : Nat → Nat) (n : Nat) : Nat → Nat := derK seed sSign [highL n 4]
/-- A seed's public key of a number; its signature's keys; the key that a signature leads to. -/
def pubN (seed : Nat → Nat) (n : Nat) : Nat → Nat := shaK (endK (tgF n) (pbK (sdF seed n) (tgF n)) 67)
def sigN (seed : Nat → Nat) (n : Nat) (l : List Nat) : Nat → Nat → Nat := sgK (sdF seed n) (tgF n) (dgF l)
def vfK (nn : Nat) (l : List Nat) (K : Nat → Nat → Nat) : Nat → Nat := shaK (endK (tgF nn) (rcK (tgF nn) (dgF l) K) 67)
end Go.Proofs.YtdejhenkdbjakaaDoor
