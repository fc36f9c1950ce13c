/- What Right of package terms tells. -/
import Derived.Test.YtffgechbmhgndaaP5
import Derived.Test.YtffgechbmhgndaaK2
import Derived.Deep.LoopGhost
set_option linter.unusedVariables false
set_option linter.unusedSimpArgs false
namespace Go.Proofs.Ytffgechbmhgndaa
open Go.RowKit

def tmV (t : Tm) : Value := .agg #[.int .i64 t.op, .int .i64 t.a, .int .i64 t.b]
def tmCells (l : List Tm) : List Value := l.flatMap fun t => [.int .i64 t.op, .int .i64 t.a, .int .i64 t.b]
/-- A slice of terms that is read. -/
def TermsAt (w : World) (v : Value) (l : List Tm) : Prop := RowsAt w v l.length 3 (tmCells l)
theorem TermsAt.below {w w1 : World} {v : Value} {l : List Tm} (h : TermsAt w v l) (hb : Below w.heap.size w w1) : TermsAt w1 v l := RowsAt.below h hb
theorem TermsAt.at {w : World} {A : Option Addr} {n c : Nat} {l : List Tm} (h : TermsAt w (.slice A n c) l) (k : Nat) (hk : k < l.length) : ∃ g off, A = some ⟨g, off, none⟩ ∧ g < w.heap.size ∧
    w.cell? ⟨g, off + k * 3, none⟩ = some (.int .i64 (Ts.tm l k).op) ∧ w.cell? ⟨g, off + k * 3 + 1, none⟩ = some (.int .i64 (Ts.tm l k).a) ∧ w.cell? ⟨g, off + k * 3 + 2, none⟩ = some (.int .i64 (Ts.tm l k).b) := by
  obtain ⟨g, off, rfl, hg, hx⟩ := RowsAt.cell h (by omega)
  obtain ⟨f1, f2, f3⟩ := flat3_get (fun t : Tm => Value.int .i64 t.op) (fun t => .int .i64 t.a) (fun t => .int .i64 t.b) l Tm.z k hk
  exact ⟨g, off, rfl, hg, hx _ _ f1, hx _ _ f2, hx _ _ f3⟩

theorem ret_int' {k : IntKind} {a b : Int} (h : a = b) : Ending.returned (.int k a) = .returned (.int k b) := by rw [h]
theorem ret_bool' {a b : Bool} (h : a = b) : Ending.returned (.bool a) = .returned (.bool b) := by rw [h]

set_option maxHeartbeats 400000 in
theorem ahead_any (n : Int) (i ib : Nat) (w : World) (hi : w.cell? ⟨ib, 0, none⟩ = some (.int .i64 i)) :
    Calls Try.prog 37 #[.int .i64 n, .pointer (some ⟨ib, 0, none⟩)] w fun r w' => r = .returned (.bool (decide (n < 0) || decide ((i : Int) ≤ n))) ∧ Below w.heap.size w w' := by
  by_cases h1 : n < 0
  all_goals by_cases h2 : (i : Int) ≤ n
  all_goals
    go_enter Try.func37, Try.ntmps37
    go_wp2
    go_ret
    exact ⟨ret_bool' (by simp [h1, h2]), Below.refl _ _⟩
theorem call37 : ∀ (args : Array Value) (w : World), (callFunc 37 args).run Try.prog w = .ok (.enter 37 args) w := by intro args w; kernel_rfl

set_option maxHeartbeats 1000000 in
theorem indexInts_any (s : List Int) (i ib : Nat) (v : Value) (w : World) (hv : RowAt w v (intsV s)) (hi : w.cell? ⟨ib, 0, none⟩ = some (.int .i64 i)) :
    Calls Try.prog 62 #[v, .func (.func 37) #[] #[.pointer (some ⟨ib, 0, none⟩)]] w fun r w' => (∃ z : Int, r = .returned (.int .i64 z) ∧ decide (0 ≤ z) = s.any fun n => decide (n < 0) || decide ((i : Int) ≤ n)) ∧ Below w.heap.size w w' := by
  have HV := Lib.hid hv
  obtain ⟨A, c, rfl, hc, hm, _⟩ := hv
  rw [intsV_length] at hc hm ⊢
  go_enter Try.func62, Try.ntmps62
  go_wp2
  go_loopw [5, 8] (fun v i' wr => ∃ k : Nat, k ≤ s.length ∧ i' = .int .i64 k ∧ Below w.heap.size w wr ∧ (s.take k).any (fun n => decide (n < 0) || decide ((i : Int) ≤ n)) = false) (fun _ i' _ => s.length - (intOf i').toNat)
  case atStart => exact ⟨0, Nat.zero_le _, rfl, Below.refl _ _, rfl⟩
  case round =>
    obtain ⟨k, hk, rfl, hb, hall⟩ := hrel
    have HA := Lib.hid hall; clear hall
    have hib := (hb.cell (World.block_lt_of_cell? w _ hi)).trans hi
    by_cases hlt : k < s.length
    · obtain ⟨g, off, c', he, _, hg, hx⟩ := HV.out.cell (by rw [intsV_length]; omega)
      simp only [Value.slice.injEq, intsV_length, true_and] at he
      obtain ⟨rfl, rfl⟩ := he
      have x1 := (hb.cell (p := ⟨g, off + k, none⟩) hg).trans (hx k _ (intsV_get s k hlt))
      clear hx
      have HS := Lib.hid (show (s.take (k + 1)).any (fun n => decide (n < 0) || decide ((i : Int) ≤ n)) = (decide (s[k] < 0) || decide ((i : Int) ≤ s[k])) by rw [List.take_succ_eq_append_getElem hlt, List.any_append, HA.out]; simp)
      have HT := Lib.hid (show (s.take (k + 1)).any (fun n => decide (n < 0) || decide ((i : Int) ≤ n)) = true → s.any (fun n => decide (n < 0) || decide ((i : Int) ≤ n)) = true from fun h => by
        rw [List.any_eq_true] at h ⊢
        obtain ⟨x, hx, hp⟩ := h
        exact ⟨x, List.mem_of_mem_take hx, hp⟩)
      have HC := Lib.hid (ahead_any s[k] i ib wr hib)
      generalize s[k] = sk at *
      generalize (decide (sk < 0) || decide ((i : Int) ≤ sk)) = p at *
      clear hib
      cases p
      · go_wp2_with fail
        refine HC.out.mono ?_
        rintro e w1 ⟨rfl, hb1⟩
        go_wp2
        go_roundw
        case rel => exact ⟨k + 1, hlt, by go_num, hb.trans (hb1.mono hb.size), HS.out⟩
        case measure => simp [intOf]; omega
      · go_wp2_with fail
        refine HC.out.mono ?_
        rintro e w1 ⟨rfl, hb1⟩
        go_wp2
        go_ret
        exact ⟨⟨_, rfl, by rw [HT.out HS.out]; simp⟩, hb.trans (hb1.mono hb.size)⟩
    · go_wp2
      go_ret
      refine ⟨⟨_, rfl, ?_⟩, hb⟩
      have := HA.out
      rw [List.take_of_length_le (by omega)] at this
      rw [this]; rfl

theorem containsInts_any (s : List Int) (i ib : Nat) (v : Value) (w : World) (hv : RowAt w v (intsV s)) (hi : w.cell? ⟨ib, 0, none⟩ = some (.int .i64 i)) :
    Calls Try.prog 38 #[v, .func (.func 37) #[] #[.pointer (some ⟨ib, 0, none⟩)]] w fun r w' => r = .returned (.bool (s.any fun n => decide (n < 0) || decide ((i : Int) ≤ n))) ∧ Below w.heap.size w w' := by
  have HI := Lib.hid (indexInts_any s i ib v w hv hi)
  clear hv hi
  go_enter Try.func38, Try.ntmps38
  go_wp2_with fail
  refine HI.out.mono ?_
  rintro e w1 ⟨⟨z, rfl, hz⟩, hb⟩
  have HZ := Lib.hid hz; clear hz
  go_wp2
  go_ret
  exact ⟨ret_bool' HZ.out, hb⟩

set_option maxHeartbeats 400000 in
theorem uses_any (t : Tm) (w : World) : Calls Try.prog 39 #[tmV t] w fun r w' => (∃ v, r = .returned v ∧ RowAt w' v (intsV (Ts.uses t))) ∧ Below w.heap.size w w' := by
  unfold tmV
  by_cases h0 : t.op = 0
  · have e : Ts.uses t = [] := by simp [Ts.uses, h0]
    have h0' : (t.op == 0) = true := by simp [h0]
    rw [e]
    clear h0 e
    go_enter Try.func39, Try.ntmps39
    go_wp2
    go_ret
    exact ⟨⟨_, rfl, none, 0, rfl, by simp [intsV], by simp [intsV], fun h => by simp [intsV] at h⟩, (Below.refl _ _).alloc (Nat.le_refl _) _⟩
  · have h0' : (t.op == 0) = false := by simp [h0]
    by_cases h2 : t.op = 2
    · have e : Ts.uses t = [t.a] := by simp [Ts.uses, h2]
      have h2' : (t.op == 2) = true := by simp [h2]
      rw [e]
      clear h0 h2 e
      go_enter Try.func39, Try.ntmps39
      go_wp2
      go_ret
      exact ⟨⟨.slice (some ⟨w.heap.size + 1, 0, none⟩) 1 1, rfl, RowAt.litAt (w.alloc _) 3 (intsV [t.a]) (by simp [intsV]) _ (by simp)⟩, ((Below.refl _ _).alloc (Nat.le_refl _) _).alloc (by simp) _⟩
    · have h2' : (t.op == 2) = false := by simp [h2]
      by_cases h3 : t.op = 3
      · have e : Ts.uses t = [t.a] := by simp [Ts.uses, h3]
        have h3' : (t.op == 3) = true := by simp [h3]
        rw [e]
        clear h0 h2 h3 e
        go_enter Try.func39, Try.ntmps39
        go_wp2
        go_ret
        exact ⟨⟨.slice (some ⟨w.heap.size + 1, 0, none⟩) 1 1, rfl, RowAt.litAt (w.alloc _) 3 (intsV [t.a]) (by simp [intsV]) _ (by simp)⟩, ((Below.refl _ _).alloc (Nat.le_refl _) _).alloc (by simp) _⟩
      · have e : Ts.uses t = [t.a, t.b] := by simp [Ts.uses, h0, h2, h3]
        have h3' : (t.op == 3) = false := by simp [h3]
        rw [e]
        clear h0 h2 h3 e
        go_enter Try.func39, Try.ntmps39
        go_wp2
        go_ret
        exact ⟨⟨.slice (some ⟨w.heap.size + 1, 0, none⟩) 2 2, rfl, RowAt.litAt (w.alloc _) 3 (intsV [t.a, t.b]) (by simp [intsV]) _ (by simp)⟩, ((Below.refl _ _).alloc (Nat.le_refl _) _).alloc (by simp) _⟩

end Go.Proofs.Ytffgechbmhgndaa
