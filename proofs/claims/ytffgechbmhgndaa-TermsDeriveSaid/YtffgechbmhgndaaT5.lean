/- A set of package terms in memory: made, open. -/
import Derived.Test.YtffgechbmhgndaaT4
set_option linter.unusedVariables false
set_option linter.unusedSimpArgs false
namespace Go.Proofs.Ytffgechbmhgndaa
open Go.RowKit

/-- A term whose numbers are numbers of a list of n. -/
structure Fits (n : Nat) (t : Tm) : Prop where
  op : 0 ≤ t.op ∧ t.op ≤ 6
  a : t.op ≠ 0 → 0 ≤ t.a ∧ t.a < n
  b : t.op = 1 ∨ 3 < t.op → 0 ≤ t.b ∧ t.b < n

set_option maxRecDepth 100000 in
set_option maxHeartbeats 8000000 in
theorem made_any {w : World} {b n c gi ci : Nat} {l : List Tm} {inn : List Bool} {A : Option Addr} (h : Reads w b l inn A n c gi ci) (t : Tm) (ht : Fits l.length t) :
    Calls Try.prog 64 #[.pointer (some ⟨b, 0, none⟩), tmV t] w fun r w' => r = .returned (.bool (Ts.made l inn t)) ∧ Below w.heap.size w w' := by
  have HR := Lib.hid h
  have c1 := h.c1
  have hlb := h.lb
  have hlg := h.lg
  have hle := h.le
  have heq := h.eq
  have hsm := h.small
  obtain ⟨o1, o2⟩ := ht.op
  unfold tmV
  by_cases h0 : t.op = 0
  · have e : Ts.made l inn t = false := by simp [Ts.made, h0]
    have h0' : (t.op == 0) = true := by simp [h0]
    rw [e]
    clear h0 e h heq
    go_enter Try.func64, Try.ntmps64
    go_wp2
    go_ret
    exact ⟨rfl, (Below.refl _ _).alloc (Nat.le_refl _) _⟩
  have h0' : (t.op == 0) = false := by simp [h0]
  obtain ⟨a1, a2⟩ := ht.a h0
  have ha3 : t.a < (inn.length : Int) := by omega
  have xa := h.ins t.a.toNat (by omega)
  by_cases h23 : t.op = 2 ∨ t.op = 3
  · have HE := Lib.hid (show Ts.made l inn t = inn.getD t.a.toNat false by simp [Ts.made, h0, h23])
    clear h heq
    generalize inn.getD t.a.toNat false = ia at *
    by_cases h2 : t.op = 2
    · have h2' : (t.op == 2) = true := by simp [h2]
      clear h0 h2 h23
      go_enter Try.func64, Try.ntmps64
      go_wp2
      go_quiet (fail)
      go_wp2
      go_ret
      exact ⟨ret_bool' HE.out.symm, below_dn ((Below.refl _ _).alloc (Nat.le_refl _) _) _⟩
    · have h2' : (t.op == 2) = false := by simp [h2]
      have h3' : (t.op == 3) = true := by simp; omega
      clear h0 h2 h23
      go_enter Try.func64, Try.ntmps64
      go_wp2
      go_quiet (fail)
      go_wp2
      go_ret
      exact ⟨ret_bool' HE.out.symm, below_dn ((Below.refl _ _).alloc (Nat.le_refl _) _) _⟩
  · have h2' : (t.op == 2) = false := by simp; omega
    have h3' : (t.op == 3) = false := by simp; omega
    obtain ⟨b1, b2⟩ := ht.b (by omega)
    have hb3 : t.b < (inn.length : Int) := by omega
    have xb := h.ins t.b.toNat (by omega)
    by_cases h4 : t.op = 4
    · have h4' : (t.op == 4) = true := by simp [h4]
      have HE := Lib.hid (show Ts.made l inn t = ((inn.getD t.a.toNat false && Ts.pub l inn t.b) || (inn.getD t.b.toNat false && Ts.pub l inn t.a)) by simp [Ts.made, h4])
      have hpb := fun w1 (hb : Below w.heap.size w w1) => public_any (HR.out.below hb) t.b
      have hpa := fun w1 (hb : Below w.heap.size w w1) => public_any (HR.out.below hb) t.a
      have HPB := Lib.hid hpb; have HPA := Lib.hid hpa
      clear h heq hpb hpa h0 h23 h4
      generalize inn.getD t.a.toNat false = ia at *
      generalize inn.getD t.b.toNat false = ib at *
      generalize Ts.pub l inn t.b = pb at *
      generalize Ts.pub l inn t.a = pa at *
      generalize Ts.made l inn t = m at *
      have hrd : ∀ w1, Below (w.heap.size + 1) (w.alloc (.cells #[.int .i64 t.op, .int .i64 t.a, .int .i64 t.b] 60)) w1 → w1.cell? ⟨b, 1, none⟩ = some (.slice (some ⟨gi, 0, none⟩) inn.length ci) ∧ w1.cell? ⟨gi, t.a.toNat, none⟩ = some (.bool ia) ∧ w1.cell? ⟨gi, t.b.toNat, none⟩ = some (.bool ib) ∧ w1.cell? ⟨w.heap.size, 1, none⟩ = some (.int .i64 t.a) ∧ w1.cell? ⟨w.heap.size, 2, none⟩ = some (.int .i64 t.b) := fun w1 hb =>
        have hb0 : Below w.heap.size w w1 := ((Below.refl _ _).alloc (Nat.le_refl _) _).trans (hb.mono (by omega))
        ⟨(hb0.cell (p := ⟨b, 1, none⟩) hlb).trans c1, (hb0.cell (p := ⟨gi, t.a.toNat, none⟩) hlg).trans xa, (hb0.cell (p := ⟨gi, t.b.toNat, none⟩) hlg).trans xb, (hb.cell (p := ⟨w.heap.size, 1, none⟩) (by simp)).trans (by simp), (hb.cell (p := ⟨w.heap.size, 2, none⟩) (by simp)).trans (by simp)⟩
      have HRD := Lib.hid hrd; clear hrd
      have hcl : ∀ w1, Below (w.heap.size + 1) (w.alloc (.cells #[.int .i64 t.op, .int .i64 t.a, .int .i64 t.b] 60)) w1 → Below w.heap.size w w1 := fun w1 hb => ((Below.refl _ _).alloc (Nat.le_refl _) _).trans (hb.mono (by omega))
      have HCL := Lib.hid hcl; clear hcl
      have hqb : ∀ w1, Below (w.heap.size + 1) (w.alloc (.cells #[.int .i64 t.op, .int .i64 t.a, .int .i64 t.b] 60)) w1 → Calls Try.prog 69 #[.pointer (some ⟨b, 0, none⟩), .int .i64 t.b] w1 fun r w' => r = .returned (.bool pb) ∧ Below (w.heap.size + 1) (w.alloc (.cells #[.int .i64 t.op, .int .i64 t.a, .int .i64 t.b] 60)) w' :=
        fun w1 hb => (HPB.out _ (HCL.out _ hb)).mono fun e w2 ⟨he, hb2⟩ => ⟨he, hb.trans (hb2.mono (by have := hb.size; simp at this; omega))⟩
      have hqa : ∀ w1, Below (w.heap.size + 1) (w.alloc (.cells #[.int .i64 t.op, .int .i64 t.a, .int .i64 t.b] 60)) w1 → Calls Try.prog 69 #[.pointer (some ⟨b, 0, none⟩), .int .i64 t.a] w1 fun r w' => r = .returned (.bool pa) ∧ Below (w.heap.size + 1) (w.alloc (.cells #[.int .i64 t.op, .int .i64 t.a, .int .i64 t.b] 60)) w' :=
        fun w1 hb => (HPA.out _ (HCL.out _ hb)).mono fun e w2 ⟨he, hb2⟩ => ⟨he, hb.trans (hb2.mono (by have := hb.size; simp at this; omega))⟩
      have QPB := Lib.hid hqb; have QPA := Lib.hid hqa
      clear hqa hqb HPA HPB
      cases ia
      · cases ib
        all_goals
          go_enter Try.func64, Try.ntmps64
          go_wp2
          refine wp_region_quiet (C := fun w1 => Below (w.heap.size + 1) (w.alloc (.cells #[.int .i64 t.op, .int .i64 t.a, .int .i64 t.b] 60)) w1) (by kernel_rfl) (by kernel_rfl) ((Below.refl _ _).drew) ?_
          repeat (first | go_big_quiet_skip | (refine wpQuiet_step (fun K hK => ?_); go_simp; first | (refine hK _ ?_; clear hK K) | (apply Exists.intro; refine ⟨fun w1 hw1 => ?_, hK _ ?_⟩; (first | with_reducible rfl | with_reducible exact QPB.out _ hw1 | with_reducible exact QPA.out _ hw1 | (obtain ⟨q1, q2, q3, q4, q5⟩ := HRD.out _ hw1; go_simp; with_reducible rfl)); clear hK K)))
          refine wpQuiet_nil ?_
          intro w2 hw2'
          have HW2 := Lib.hid (HCL.out _ hw2')
          clear hw2'
          go_wp2
          go_ret
          exact ⟨ret_bool' (by rw [HE.out]; simp), HW2.out⟩
      · cases pb
        · cases ib
          all_goals
            go_enter Try.func64, Try.ntmps64
            go_wp2
            refine wp_region_quiet (C := fun w1 => Below (w.heap.size + 1) (w.alloc (.cells #[.int .i64 t.op, .int .i64 t.a, .int .i64 t.b] 60)) w1) (by kernel_rfl) (by kernel_rfl) ((Below.refl _ _).drew) ?_
            repeat (first | go_big_quiet_skip | (refine wpQuiet_step (fun K hK => ?_); go_simp; first | (refine hK _ ?_; clear hK K) | (apply Exists.intro; refine ⟨fun w1 hw1 => ?_, hK _ ?_⟩; (first | with_reducible rfl | with_reducible exact QPB.out _ hw1 | with_reducible exact QPA.out _ hw1 | (obtain ⟨q1, q2, q3, q4, q5⟩ := HRD.out _ hw1; go_simp; with_reducible rfl)); clear hK K)))
            refine wpQuiet_nil ?_
            intro w2 hw2'
            have HW2 := Lib.hid (HCL.out _ hw2')
            clear hw2'
            go_wp2
            go_ret
            exact ⟨ret_bool' (by rw [HE.out]; simp), HW2.out⟩
        · skip
          go_enter Try.func64, Try.ntmps64
          go_wp2
          refine wp_region_quiet (C := fun w1 => Below (w.heap.size + 1) (w.alloc (.cells #[.int .i64 t.op, .int .i64 t.a, .int .i64 t.b] 60)) w1) (by kernel_rfl) (by kernel_rfl) ((Below.refl _ _).drew) ?_
          repeat (first | go_big_quiet_skip | (refine wpQuiet_step (fun K hK => ?_); go_simp; first | (refine hK _ ?_; clear hK K) | (apply Exists.intro; refine ⟨fun w1 hw1 => ?_, hK _ ?_⟩; (first | with_reducible rfl | with_reducible exact QPB.out _ hw1 | with_reducible exact QPA.out _ hw1 | (obtain ⟨q1, q2, q3, q4, q5⟩ := HRD.out _ hw1; go_simp; with_reducible rfl)); clear hK K)))
          refine wpQuiet_nil ?_
          intro w2 hw2'
          have HW2 := Lib.hid (HCL.out _ hw2')
          clear hw2'
          go_wp2
          go_ret
          exact ⟨ret_bool' (by rw [HE.out]; simp), HW2.out⟩
    · have h4' : (t.op == 4) = false := by simp [h4]
      have HE := Lib.hid (show Ts.made l inn t = (inn.getD t.a.toNat false && inn.getD t.b.toNat false) by simp [Ts.made, h0, h23, h4])
      clear h heq h0 h23 h4
      generalize inn.getD t.a.toNat false = ia at *
      generalize inn.getD t.b.toNat false = ib at *
      cases ia
      all_goals
        go_enter Try.func64, Try.ntmps64
        go_wp2
        go_quiet (fail)
        go_wp2
        go_ret
        exact ⟨ret_bool' HE.out.symm, below_dn ((Below.refl _ _).alloc (Nat.le_refl _) _) _⟩

end Go.Proofs.Ytffgechbmhgndaa
