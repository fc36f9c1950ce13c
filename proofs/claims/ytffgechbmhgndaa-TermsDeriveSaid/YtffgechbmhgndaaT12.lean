/- Appending a slice that is read, empty or not. -/
import Derived.Test.YtffgechbmhgndaaT10
import Derived.Deep.AppendSrc
set_option linter.unusedVariables false
set_option linter.unusedSimpArgs false
namespace Go.Proofs.Ytffgechbmhgndaa
open Go.RowKit

/-- append of nothing to a slice that is not nil: nothing is changed. -/
theorem wpList_append_nothing {P : Program} (w : World) {ops : Array Oper} {rest : List Oper} {o : Oper} {a : Act} {Q : Exit → Act → World → Prop} (hgd : o.guard = none) (s x : Operand) (t : TypeId)
    (ho : o.op = .call { callee := .builtin .append, args := #[s, x], argTypes := #[t, t] }) (e : TypeId) (i : TypeInfo) (ht : P.underlying t = some (.slice e)) (hi : P.info? e = some i)
    (b off n cap : Nat) (hs : a.eval s = .slice (some ⟨b, off, none⟩) n cap) (hn : n ≤ cap) (A : Option Addr) (c : Nat) (hx : a.eval x = .slice A 0 c)
    (h : wpList P ops Q rest (a.put o.dst (.slice (some ⟨b, off, none⟩) n cap)) w) : wpList P ops Q (o :: rest) a w := by
  have hsrc : Go.Src P i.size t (.slice A 0 c) 0 [] w := by
    cases A with
    | none => exact Go.Src.ofNil _ ht c
    | some ad => exact Go.Src.ofSlice _ ht ad 0 c [] (by simp) (by simp) (by simp)
  have hrun := Go.run_append_room_src (P := P) w t t o.type e i ht hi b off n cap (.slice A 0 c) 0 [] hsrc (by omega) (by simp) (by simp)
  refine wpList_plain hgd fun K hK => ?_
  unfold Oper.wp execOp
  simp only [ho, resolve, invoke, builtin, Sem.run_bind, Sem.run_pure, Result.andThen_ok, List.map_toArray, List.map_cons, List.map_nil, hs, hx, hrun]
  exact hK _ _ (by simpa [World.setCells] using h)

namespace Ts
theorem result_closed {l : List Tm} (hs : Shape l) {known : List Int} (hv : valid l known) : Closed l (result l known).inn := by
  obtain ⟨h1, h2, h3, h4⟩ := start_all hv
  exact (ends_keeps (K := Kn known) hs (result_ends hs hv) h1).2
theorem closeF_ok {l : List Tm} {known : List Int} (h : (closeF l known).1 = 0) : right l = 0 ∧ valid l known ∧ (closeF l known).2 = (result l known).inn := by
  unfold closeF at h ⊢
  by_cases hr : right l ≠ 0
  · rw [if_pos hr] at h; exact absurd h hr
  · rw [if_neg hr] at h ⊢
    by_cases hv : valid l known
    · rw [if_pos hv]; exact ⟨by simpa using hr, hv, rfl⟩
    · rw [if_neg hv] at h; cases h
theorem closeF_of {l : List Tm} {known : List Int} (hr : right l = 0) (hv : valid l known) : closeF l known = (0, (result l known).inn) := by
  unfold closeF; rw [if_neg (by simpa using hr), if_pos hv]
theorem more_err {l : List Tm} {known more : List Int} (h : (closeF l known).1 ≠ 0) : (closeF l (known ++ more)).1 ≠ 0 := by
  intro h2
  obtain ⟨hr, hv, _⟩ := closeF_ok h2
  exact h (by rw [closeF_of hr (fun k hk => hv k (by simp [hk]))])
theorem more_len {l : List Tm} {known : List Int} (h : (closeF l known).1 = 0) : (closeF l known).2.length = l.length := by
  obtain ⟨hr, hv, he⟩ := closeF_ok h
  obtain ⟨_, hs⟩ := right_zero hr
  rw [he]; exact (result_all hs hv).1
theorem more_sub {l : List Tm} {known more : List Int} (h : (closeF l known).1 = 0) (h2 : (closeF l (known ++ more)).1 = 0) (i : Nat) (hi : (closeF l known).2.getD i false = true) : (closeF l (known ++ more)).2.getD i false = true := by
  obtain ⟨hr, hv, he⟩ := closeF_ok h
  obtain ⟨_, hv2, he2⟩ := closeF_ok h2
  obtain ⟨_, hs⟩ := right_zero hr
  rw [he] at hi; rw [he2]
  have hd := ((result_all hs hv).2.2 i).1 hi
  exact (result_closed hs hv2).all hs (fun k hk => ((result_all hs hv2).2.2 k).2 (.known k (by unfold Kn at hk ⊢; simp [hk]))) i hd
def foundTo (a : List Bool) : Nat → List Int
  | 0 => []
  | k + 1 => foundTo a k ++ (if a.getD k false = true then [(k : Int)] else [])
theorem mem_foundTo {a : List Bool} {x : Int} : ∀ {k : Nat}, x ∈ foundTo a k ↔ ∃ i : Nat, i < k ∧ x = i ∧ a.getD i false = true
  | 0 => by simp [foundTo]
  | k + 1 => by
    rw [foundTo, List.mem_append, mem_foundTo (k := k)]
    constructor
    · rintro (⟨i, h1, h2, h3⟩ | h)
      · exact ⟨i, by omega, h2, h3⟩
      · split at h
        · rename_i ha
          simp at h
          exact ⟨k, by omega, h, ha⟩
        · simp at h
    · rintro ⟨i, h1, h2, h3⟩
      by_cases hik : i = k
      · subst hik; right; rw [if_pos h3]; simp [h2]
      · exact .inl ⟨i, by omega, h2, h3⟩
theorem foundTo_length (a : List Bool) (k : Nat) : (foundTo a k).length ≤ k := by
  induction k with
  | zero => simp [foundTo]
  | succ k ih => rw [foundTo, List.length_append]; split <;> simp <;> omega
theorem more_again {l : List Tm} {known : List Int} (h : (closeF l known).1 = 0) : closeF l (foundTo (closeF l known).2 l.length) = (0, (closeF l known).2) := by
  obtain ⟨hr, hv, he⟩ := closeF_ok h
  obtain ⟨_, hs⟩ := right_zero hr
  have hl := more_len h
  generalize (closeF l known).2 = a at *
  have hvf : valid l (foundTo a l.length) := by
    intro k hk
    obtain ⟨i, h1, rfl, _⟩ := mem_foundTo.1 hk
    omega
  rw [closeF_of hr hvf]
  congr 1
  obtain ⟨f1, _, f2⟩ := result_all hs hvf
  have hc : Closed l a := by rw [he]; exact result_closed hs hv
  refine ext (f1.trans hl.symm) fun i => ?_
  rw [f2 i]
  constructor
  · exact fun hd => hc.all hs (fun k hk => by
      obtain ⟨j, _, h2, h3⟩ := mem_foundTo.1 (show (k : Int) ∈ foundTo a l.length from hk)
      rwa [show k = j by omega]) i hd
  · exact fun ha => .known i (mem_foundTo.2 ⟨i, by have := getD_lt ha; omega, rfl, ha⟩)
end Ts

end Go.Proofs.Ytffgechbmhgndaa
