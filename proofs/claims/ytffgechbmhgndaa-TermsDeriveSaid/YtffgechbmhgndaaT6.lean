/- A set of package terms in memory: open, and one visit. -/
import Derived.Test.YtffgechbmhgndaaT5
set_option linter.unusedVariables false
set_option linter.unusedSimpArgs false
namespace Go.Proofs.Ytffgechbmhgndaa
open Go.RowKit

/-- What a set of the call's own lets a call read. -/
theorem SOwn.reads {w w1 : World} {b n c : Nat} {A : Option Addr} {l : List Tm} {s : Ts.St} (h : SOwn w b (.slice A n c) s w1) (hl : TermsAt w (.slice A n c) l) (he : s.inn.length = l.length) (h0 : 0 < l.length) (hs : l.length ≤ 10000) :
    ∃ gi ci, Reads w1 b l s.inn A n c gi ci := by
  obtain ⟨vi, vo, h1, h2, h3, h4, h5⟩ := h
  obtain ⟨g, ci, rfl, hc, hg, cur, hcur, hcs⟩ := own_some h2 (by omega)
  obtain ⟨_, _, hv, _, _⟩ := RowsAt.form hl
  simp only [Value.slice.injEq] at hv
  exact ⟨g, ci, hl.below h4, cell_of_row w1 b 0 _ 80 (0, 0) h1, cell_of_row w1 b 1 _ 80 (0, 0) h1, fun i hi => bool_cell h2 rfl i hi, heap_lt h1, heap_lt hcur, hc, he, hv.2.1, hs⟩

set_option maxRecDepth 100000 in
set_option maxHeartbeats 2000000 in
theorem open_any {w w1 : World} {b n c : Nat} {A : Option Addr} {l : List Tm} {s : Ts.St} (h : SOwn w b (.slice A n c) s w1) (hl : TermsAt w (.slice A n c) l) (he : s.inn.length = l.length) (h0 : 0 < l.length) (hs : l.length ≤ 1000) (hi : Ts.Inv s) (t : Tm) (ht : Fits l.length t) :
    Calls Try.prog 65 #[.pointer (some ⟨b, 0, none⟩), tmV t] w1 fun r w' => r = .returned (.tuple #[]) ∧ SOwn w b (.slice A n c) (Ts.opened s t) w' := by
  obtain ⟨gi, ci, hr⟩ := h.reads hl he h0 (by omega)
  have HS := Lib.hid h
  have c1 := hr.c1
  have hlb := hr.lb
  have hlg := hr.lg
  have hle := hr.le
  obtain ⟨o1, o2⟩ := ht.op
  have hil := hi.le
  unfold tmV
  have HW := Lib.hid (h.later ((Below.refl w1.heap.size w1).alloc (Nat.le_refl _) (.cells #[.int .i64 t.op, .int .i64 t.a, .int .i64 t.b] 60)))
  by_cases h1 : t.op = 1
  · obtain ⟨a1, a2⟩ := ht.a (by omega)
    obtain ⟨b1, b2⟩ := ht.b (by omega)
    have h1' : (t.op == 1) = true := by simp [h1]
    have ia1 : Ts.Inv (Ts.add s t.a.toNat) := hi.add (by omega)
    have ia2 := ia1.le
    rw [Ts.add_length] at ia2
    have k1 := add_kept HS.out ((Below.refl w1.heap.size w1).alloc (Nat.le_refl _) (.cells #[.int .i64 t.op, .int .i64 t.a, .int .i64 t.b] 60)) t.a.toNat (by omega) (by omega)
    have k2 := fun w2 (hw : SOwn w b (.slice A n c) (Ts.add s t.a.toNat) w2) => add_any hw t.b.toNat (by rw [Ts.add_length]; omega) (by omega)
    have e : Ts.opened s t = Ts.add (Ts.add s t.a.toNat) t.b.toNat := by unfold Ts.opened; rw [if_pos h1]
    rw [e]
    rw [show ((t.a.toNat : Nat) : Int) = t.a by omega] at k1
    rw [show ((t.b.toNat : Nat) : Int) = t.b by omega] at k2
    have K1 := Lib.hid k1; have K2 := Lib.hid k2
    clear k1 k2 e hr h h1 ia1
    go_enter Try.func65, Try.ntmps65
    go_wp2_with fail
    refine K1.out.mono ?_
    rintro e w2 ⟨rfl, hw2, F, hF, hF0⟩
    have HW2 := Lib.hid hw2; clear hw2
    have x2 : w2.cell? ⟨w1.heap.size, 2, none⟩ = some (.int .i64 t.b) := by
      have : w2.heap[w1.heap.size]? = some (.cells #[.int .i64 t.op, .int .i64 t.a, .int .i64 t.b] 60 (0, 0)) := (hF.block w1.heap.size (by simp) (fun h => by have := hF0 _ h; omega)).trans (heap_alloc_new w1 _)
      exact cell_of_row w2 _ 2 _ 60 (0, 0) this
    clear hF hF0
    go_wp2_with fail
    refine (K2.out _ HW2.out).mono ?_
    rintro e w3 ⟨rfl, hw3⟩
    have HW3 := Lib.hid hw3; clear hw3
    go_wp2
    go_end0
    exact ⟨rfl, HW3.out⟩
  · have h1' : (t.op == 1) = false := by simp [h1]
    by_cases h5 : t.op = 5
    · obtain ⟨a1, a2⟩ := ht.a (by omega)
      obtain ⟨b1, b2⟩ := ht.b (by omega)
      have h5' : (t.op == 5) = true := by simp [h5]
      have xa := hr.ins t.a.toNat (by omega)
      have ha3 : t.a < (s.inn.length : Int) := by omega
      by_cases ha : s.inn.getD t.a.toNat false = true
      · rw [ha] at xa
        have e : Ts.opened s t = Ts.add s t.b.toNat := by unfold Ts.opened; rw [if_neg h1, if_pos ⟨h5, ha⟩]
        rw [e]
        have k1 := fun m => add_any (HW.out.later (below_dn (Below.refl _ _) m)) t.b.toNat (by omega) (by omega)
        rw [show ((t.b.toNat : Nat) : Int) = t.b by omega] at k1
        have K1 := Lib.hid k1
        clear k1 e hr h h1 h5 ha he
        go_enter Try.func65, Try.ntmps65
        go_wp2
        go_quiet (fail)
        go_wp2_with fail
        refine (K1.out _).mono ?_
        rintro e w2 ⟨rfl, hw2⟩
        have HW2 := Lib.hid hw2; clear hw2
        go_wp2
        go_end0
        exact ⟨rfl, HW2.out⟩
      · have ha' : s.inn.getD t.a.toNat false = false := by simpa using ha
        rw [ha'] at xa
        have e : Ts.opened s t = s := by unfold Ts.opened; rw [if_neg h1, if_neg (fun h => ha h.2)]
        rw [e]
        clear e hr h h1 h5 ha ha' he
        go_enter Try.func65, Try.ntmps65
        go_wp2
        go_quiet (fail)
        go_wp2
        go_end0
        exact ⟨rfl, HW.out.later (below_dn (Below.refl _ _) _)⟩
    · have h5' : (t.op == 5) = false := by simp [h5]
      have e : Ts.opened s t = s := by unfold Ts.opened; rw [if_neg h1, if_neg (fun h => h5 h.1)]
      rw [e]
      clear e hr h h1 h5 he
      go_enter Try.func65, Try.ntmps65
      go_wp2
      go_quiet (fail)
      go_wp2
      go_end0
      exact ⟨rfl, HW.out.later (below_dn (Below.refl _ _) _)⟩

end Go.Proofs.Ytffgechbmhgndaa
