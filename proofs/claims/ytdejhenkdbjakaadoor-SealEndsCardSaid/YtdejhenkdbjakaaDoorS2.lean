/- Keys, chains' ends, what a signature leads to: plain. -/
import Derived.Test.YtdejhenkdbjakaaDoorS1
set_option linter.unusedVariables false
set_option linter.unusedSimpArgs false
namespace Go.Proofs.YtdejhenkdbjakaaDoor
def endK (tag : Nat → Nat) (K : Nat → Nat → Nat) : Nat → List Nat
  | 0 => kl tag
  | k + 1 => endK tag K k ++ kl (K k)
theorem endK_len (tag : Nat → Nat) (K : Nat → Nat → Nat) : ∀ k, (endK tag K k).length = 32 + 32 * k
  | 0 => by rw [endK, kl_len]
  | k + 1 => by rw [endK, List.length_append, endK_len tag K k, kl_len]; omega
theorem endK_lt {tag : Nat → Nat} {K : Nat → Nat → Nat} (ht : ∀ i, i < 32 → tag i < 256) (hK : ∀ k i, i < 32 → K k i < 256) : ∀ k, ∀ x ∈ endK tag K k, x < 256
  | 0 => kl_lt ht
  | k + 1 => fun x hx => by
    rw [endK] at hx
    exact (List.mem_append.1 hx).elim (endK_lt ht hK k x) (kl_lt (hK k) x)
theorem endK_eq (tag : Nat → Nat) (K : Nat → Nat → Nat) : ∀ k, endK tag K k = endsL tag ((List.range k).map K)
  | 0 => by simp [endK, endsL]
  | k + 1 => by
    rw [endK, endK_eq tag K k]
    unfold endsL
    rw [List.range_succ, List.map_append, List.map_append, List.flatten_append, List.append_assoc]
    simp
/-- The keys that a signature's keys lead to; those of a signature; those of a public key. -/
def rcK (tag fd : Nat → Nat) (K : Nat → Nat → Nat) (k : Nat) : Nat → Nat := alF tag k ((digL fd).getD k 0 : Nat) (K k) (15 - (digL fd).getD k 0)
def sgK (seed tag fd : Nat → Nat) (k : Nat) : Nat → Nat := alF tag k 0 (begF seed k) ((digL fd).getD k 0)
def pbK (seed tag : Nat → Nat) (k : Nat) : Nat → Nat := alF tag k 0 (begF seed k) 15
theorem begF_lt (seed : Nat → Nat) (ch : Int) (i : Nat) : begF seed ch i < 256 := derK_lt _ _ _ _
theorem rcK_lt {tag fd : Nat → Nat} {K : Nat → Nat → Nat} (hK : ∀ k i, i < 32 → K k i < 256) (k i : Nat) (h : i < 32) : rcK tag fd K k i < 256 := alF_lt _ _ _ (hK k) _ i h
theorem sgK_lt (seed tag fd : Nat → Nat) (k i : Nat) (h : i < 32) : sgK seed tag fd k i < 256 := alF_lt _ _ _ (fun i _ => begF_lt _ _ i) _ i h
theorem pbK_lt (seed tag : Nat → Nat) (k i : Nat) (h : i < 32) : pbK seed tag k i < 256 := alF_lt _ _ _ (fun i _ => begF_lt _ _ i) _ i h
def ffK (k : Nat) : Nat → Nat := fun i => if i < k then 255 else 0
theorem ffK_lt (k i : Nat) : ffK k i < 256 := by unfold ffK; split <;> omega
def oneF (c : Nat) : Nat → Nat := fun i => if i = 0 then c else 0
theorem oneF_lt {c : Nat} (h : c < 256) (i : Nat) : oneF c i < 256 := by unfold oneF; split <;> omega
theorem endK_congr {tag : Nat → Nat} {K K' : Nat → Nat → Nat} : ∀ n, (∀ k, k < n → K k = K' k) → endK tag K n = endK tag K' n
  | 0, _ => rfl
  | n + 1, h => by rw [endK, endK, endK_congr n (fun k hk => h k (by omega)), h n (by omega)]
theorem rc_sg (seed tag fd : Nat → Nat) (hfd : ∀ i, i < 32 → fd i < 256) : endK tag (rcK tag fd (sgK seed tag fd)) 67 = endK tag (pbK seed tag) 67 :=
  endK_congr 67 fun k _ => al_split tag k (begF seed k) (digD_lt hfd k)
end Go.Proofs.YtdejhenkdbjakaaDoor
