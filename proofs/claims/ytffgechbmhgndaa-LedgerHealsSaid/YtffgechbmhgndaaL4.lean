/- What Leaked tells. -/
import Derived.Test.YtffgechbmhgndaaL1
import Derived.Deep.LoopGhost
set_option linter.unusedVariables false
set_option linter.unusedSimpArgs false
namespace Go.Proofs.Ytffgechbmhgndaa
open Go.RowKit

abbrev Look := Nat × Nat × Nat
def lookV (t : Look) : Value := .agg #[.int .i64 t.1, .int .i64 t.2.1, .int .i64 t.2.2]
theorem ret_bool {a b : Bool} (h : a = b) : Ending.returned (.bool a) = .returned (.bool b) := by rw [h]

set_option maxHeartbeats 400000 in
theorem look1 (t : Look) (i ib : Nat) (w : World) (hi : w.cell? ⟨ib, 0, none⟩ = some (.int .i64 i)) :
    Calls Try.prog 34 #[lookV t, .pointer (some ⟨ib, 0, none⟩)] w fun r w' => r = .returned (.bool (t.1 == i)) ∧ Below w.heap.size w w' := by
  have hlt : ib < w.heap.size := World.block_lt_of_cell? w _ hi
  unfold lookV
  go_enter Try.func34, Try.ntmps34
  go_wp2
  go_ret
  exact ⟨ret_bool (by rw [Bool.eq_iff_iff]; simp; omega), (Below.refl _ _).alloc (Nat.le_refl _) _⟩

set_option maxHeartbeats 400000 in
theorem look2 (t : Look) (i ib : Nat) (w : World) (hi : w.cell? ⟨ib, 0, none⟩ = some (.int .i64 i)) :
    Calls Try.prog 35 #[lookV t, .pointer (some ⟨ib, 0, none⟩)] w fun r w' => r = .returned (.bool (decide (t.2.1 ≤ i) && decide (i ≤ t.2.2))) ∧ Below w.heap.size w w' := by
  have hlt : ib < w.heap.size := World.block_lt_of_cell? w _ hi
  unfold lookV
  by_cases h1 : t.2.1 ≤ i
  all_goals
    go_enter Try.func35, Try.ntmps35
    go_wp2
    go_ret
    exact ⟨ret_bool (by rw [Bool.eq_iff_iff]; simp [h1]), (Below.refl _ _).alloc (Nat.le_refl _) _⟩

theorem call34 : ∀ (args : Array Value) (w : World), (callFunc 34 args).run Try.prog w = .ok (.enter 34 args) w := by intro args w; kernel_rfl
theorem call35 : ∀ (args : Array Value) (w : World), (callFunc 35 args).run Try.prog w = .ok (.enter 35 args) w := by intro args w; kernel_rfl

theorem seen_cell (s : List Look) (j : Nat) (h : j < s.length) (i : Nat) (hi : i < 3) : (Led.seenCells s)[j * 3 + i]? = some ((#[.int .i64 (s.getD j (0, 0, 0)).1, .int .i64 (s.getD j (0, 0, 0)).2.1, .int .i64 (s.getD j (0, 0, 0)).2.2] : Array Value)[i]?.getD undef) := by
  induction s generalizing j with
  | nil => simp at h
  | cons x s ih =>
    cases j with
    | zero =>
      match i, hi with
      | 0, _ => rfl
      | 1, _ => rfl
      | 2, _ => rfl
    | succ j =>
      have := ih j (by simpa using h)
      have e : Led.seenCells (x :: s) = [.int .i64 x.1, .int .i64 x.2.1, .int .i64 x.2.2] ++ Led.seenCells s := by simp [Led.seenCells]
      rw [e, List.getElem?_append_right (by simp; omega)]
      simp only [List.length_cons, List.length_nil]
      rw [show (j + 1) * 3 + i - (0 + 1 + 1 + 1) = j * 3 + i by omega, this]
      simp

def idx (p : Look → Bool) (s : List Look) : Int := match s.findIdx? p with
  | some i => i
  | none => -1

theorem idx_found (p : Look → Bool) (s : List Look) (k : Nat) (h : k < s.length) (hp : p s[k] = true) (hall : ∀ j, j < k → p (s.getD j (0, 0, 0)) = false) : idx p s = k := by
  have : s.findIdx? p = some k := by
    rw [List.findIdx?_eq_some_iff_getElem]
    exact ⟨h, hp, fun j hj => by have := hall j hj; simpa [List.getD, show j < s.length by omega] using this⟩
  simp [idx, this]
theorem idx_none (p : Look → Bool) (s : List Look) (k : Nat) (h : s.length ≤ k) (hall : ∀ j, j < k → p (s.getD j (0, 0, 0)) = false) : idx p s = -1 := by
  have : s.findIdx? p = none := by
    rw [List.findIdx?_eq_none_iff]
    intro x hx
    obtain ⟨j, hj, rfl⟩ := List.getElem_of_mem hx
    have := hall j (by omega)
    simpa [List.getD, hj] using this
  simp [idx, this]

set_option maxHeartbeats 400000 in
theorem indexFunc_any (s : List Look) (p : Look → Bool) (vs : Value) (n : Nat) (cb : Nat) (w : World) (hs : w.ownsRow 0 71 3 vs s.length (Led.seenCells s)) (hl : s.length ≤ 1000)
    (hcf : ∀ (args : Array Value) (w : World), (callFunc n args).run Try.prog w = .ok (.enter n args) w)
    (hf : ∀ w1, Below w.heap.size w w1 → ∀ t, Calls Try.prog n #[lookV t, .pointer (some ⟨cb, 0, none⟩)] w1 fun r w' => r = .returned (.bool (p t)) ∧ Below w1.heap.size w1 w') :
    Calls Try.prog 61 #[vs, .func (.func n) #[] #[.pointer (some ⟨cb, 0, none⟩)]] w fun r w' => r = .returned (.int .i64 (idx p s)) ∧ Below w.heap.size w w' := by
  have HF := Lib.hid hf; clear hf
  obtain ⟨A, c, rfl, hc⟩ := own_form hs
  have HS := Lib.hid hs; clear hs
  go_enter Try.func61, Try.ntmps61
  go_wp2
  go_loopw [5, 8] (fun v i wr => ∃ k : Nat, k ≤ s.length ∧ i = .int .i64 k ∧ Below w.heap.size w wr ∧ ∀ j, j < k → p (s.getD j (0, 0, 0)) = false) (fun _ i _ => s.length - (intOf i).toNat)
  case atStart => exact ⟨0, Nat.zero_le _, rfl, Below.refl _ _, by omega⟩
  case round =>
    obtain ⟨k, hk, rfl, hb, hall⟩ := hrel
    have HA := Lib.hid hall; clear hall
    by_cases hlt : k < s.length
    · obtain ⟨g, c', he, _, hg, hx⟩ := own_cell HS.out (by omega)
      obtain ⟨rfl, _, rfl⟩ : A = some ⟨g, 0, none⟩ ∧ s.length = s.length ∧ c = c' := by simpa using he
      have HX := Lib.hid hx; clear hx
      have x0 := (hb.cell (p := ⟨g, k * 3, none⟩) hg).trans (HX.out (k * 3) _ (seen_cell s k hlt 0 (by omega)))
      have x1 := (hb.cell (p := ⟨g, k * 3 + 1, none⟩) hg).trans (HX.out _ _ (seen_cell s k hlt 1 (by omega)))
      have x2 := (hb.cell (p := ⟨g, k * 3 + 2, none⟩) hg).trans (HX.out _ _ (seen_cell s k hlt 2 (by omega)))
      simp at x0 x1 x2
      by_cases hp : p s[k] = true
      · go_wp2_with fail
        refine (HF.out _ hb s[k]).mono ?_
        rintro e w1 ⟨rfl, hb1⟩
        rw [hp]
        go_wp2
        go_ret
        exact ⟨ret_int (idx_found p s k hlt hp HA.out).symm, hb.trans (hb1.mono hb.size)⟩
      · have hp' : p s[k] = false := by simpa using hp
        clear hp
        go_wp2_with fail
        refine (HF.out _ hb s[k]).mono ?_
        rintro e w1 ⟨rfl, hb1⟩
        rw [hp']
        go_wp2
        go_roundw
        case rel =>
          refine ⟨k + 1, hlt, by go_num, hb.trans (hb1.mono hb.size), fun j hj => ?_⟩
          by_cases h : j = k
          · subst h; simpa [List.getD, hlt] using hp'
          · exact HA.out j (by omega)
        case measure => simp [intOf]; omega
    · go_wp2
      go_ret
      exact ⟨ret_int (idx_none p s k (by omega) HA.out).symm, hb⟩

end Go.Proofs.Ytffgechbmhgndaa
