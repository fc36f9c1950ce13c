/- The reference's Step, where a term is shared; and Step as a whole. -/
import Derived.Test.YtffgechbmhgndaaR3
set_option linter.unusedVariables false
set_option linter.unusedSimpArgs false
namespace Go.Proofs.Ytffgechbmhgndaa
open Go.RowKit

set_option maxRecDepth 100000 in
set_option maxHeartbeats 8000000 in
theorem rstep_four1 (v vs : Value) (l : List Tm) (s : List Bool) (i : Nat) (w : World) (hv : TermsAt w v l) (hs : RowAt w vs (bools s)) (hl : s.length = l.length) (hsh : Ts.Shape l) (hi : i < l.length) (hop : (Ts.tm l i).op = 4) (hia : s.getD (Ts.tm l i).a.toNat false = true) (hpb : Ts.pub l s (Ts.tm l i).b = true) :
    Calls Try.prog 23 #[v, vs, .int .i64 i] w fun r w' => r = .returned (.bool (Ts.rstep l s i)) ∧ Below w.heap.size w w' := by
  have HV := Lib.hid hv
  have HS := Lib.hid hs
  have hfit : Fits l.length (Ts.tm l i) := ⟨hsh.op i hi, fun h => by have := hsh.a i hi h; omega, fun h => by have := hsh.b i hi h; omega⟩
  obtain ⟨A, c, rfl, hc, hm⟩ := RowsAt.form hv
  obtain ⟨B, d, rfl, hd, hm2⟩ := bools_form hs
  obtain ⟨gt, offt, rfl, hgt, t1, t2, t3⟩ := hv.at i hi
  rw [hl] at HS hd hs ⊢
  have HL := Lib.hid hl
  have HSH := Lib.hid hsh
  obtain ⟨gs, offs, rfl, hgs, _⟩ := bools_at hs (k := i) (by rw [HL.out]; exact hi)
  have hrs := Ts.rstep_a (l := l) (s := s) (i := i)
  generalize Ts.tm l i = t at t1 t2 t3 hop hfit hrs hia hpb
  have HRA := Lib.hid (hrs (by unfold Ts.stepA; rw [hia, hpb]; simp [hop]))
  clear hrs
  obtain ⟨a1, a2⟩ := hfit.a (by omega)
  obtain ⟨b1, b2⟩ := hfit.b (by omega)
  have p2 : (t.op == 2) = false := by simp; omega
  have p3 : (t.op == 3) = false := by simp; omega
  have p1 : (t.op == 1) = false := by simp; omega
  have p4 : (t.op == 4) = true := by simp; omega
  have p5 : decide (4 < t.op) = false := by simp; omega
  have HW0 := Lib.hid ((Below.refl w.heap.size w).alloc (Nat.le_refl _) (.cells #[.int .i64 t.op, .int .i64 t.a, .int .i64 t.b] 61))
  have hba := fun w1 (hb : Below w.heap.size w w1) => bools_at (HS.out.below hb) (k := t.a.toNat) (by rw [HL.out]; omega)
  have hbb := fun w1 (hb : Below w.heap.size w w1) => bools_at (HS.out.below hb) (k := t.b.toNat) (by rw [HL.out]; omega)
  have hkb := fun w1 (hb : Below w.heap.size w w1) => rkey_any _ _ l s t.b w1 (HV.out.below hb) (HS.out.below hb) HL.out
  have hka := fun w1 (hb : Below w.heap.size w w1) => rkey_any _ _ l s t.a w1 (HV.out.below hb) (HS.out.below hb) HL.out
  rw [hia] at hba
  rw [hpb] at hkb
  generalize s.getD t.b.toNat false = ib at hbb
  generalize Ts.pub l s t.a = pa at hka
  have HBA := Lib.hid hba; have HBB := Lib.hid hbb; have HKA := Lib.hid hka; have HKB := Lib.hid hkb
  have hta : ∀ w1, Below (w.heap.size + 1) (w.alloc (.cells #[.int .i64 t.op, .int .i64 t.a, .int .i64 t.b] 61)) w1 → Below w.heap.size w w1 ∧ w1.cell? ⟨w.heap.size, 1, none⟩ = some (.int .i64 t.a) ∧ w1.cell? ⟨w.heap.size, 2, none⟩ = some (.int .i64 t.b) ∧ w.heap.size + 1 ≤ w1.heap.size := fun w1 hb =>
    ⟨HW0.out.trans (hb.mono (by omega)), (hb.cell (p := ⟨w.heap.size, 1, none⟩) (by simp)).trans (by simp), (hb.cell (p := ⟨w.heap.size, 2, none⟩) (by simp)).trans (by simp), by have := hb.size; simp at this; omega⟩
  have HTA := Lib.hid hta
  have a3 : t.a < (l.length : Int) := by omega
  have b3 : t.b < (l.length : Int) := by omega
  clear hv hs hm2 hl hsh hop hfit a2 b2 hba hbb hka hkb hta hia hpb
  go_enter Try.func23, Try.ntmps23
  go_wp2_with fail
  refine (HKB.out _ HW0.out).mono ?_
  rintro e w1 ⟨rfl, hb1⟩
  have HB1 := Lib.hid (show Below (w.heap.size + 1) (w.alloc (.cells #[.int .i64 t.op, .int .i64 t.a, .int .i64 t.b] 61)) w1 from hb1.mono (by simp))
  obtain ⟨q1, q2, q3, q4⟩ := HTA.out _ HB1.out
  have Q1 := Lib.hid q1
  clear hb1 q1
  go_wp2_with fail
  refine (HKA.out _ Q1.out).mono ?_
  rintro e w2 ⟨rfl, hb2⟩
  have HB2 := Lib.hid (HB1.out.trans (hb2.mono q4))
  clear q2 q3 q4 hb2
  obtain ⟨q1, q2, q3, q4⟩ := HTA.out _ HB2.out
  obtain ⟨_, _, hq, _, xa⟩ := HBA.out _ q1
  simp only [Option.some.injEq, Addr.mk.injEq, true_and, and_true] at hq
  obtain ⟨rfl, rfl⟩ := hq
  obtain ⟨_, _, hq, _, xb⟩ := HBB.out _ q1
  simp only [Option.some.injEq, Addr.mk.injEq, true_and, and_true] at hq
  obtain ⟨rfl, rfl⟩ := hq
  clear HW0
  have HW0 := Lib.hid q1
  clear q1
  go_wp2
  go_ret
  exact ⟨ret_bool' (by rw [HRA.out]), HW0.out⟩

set_option maxRecDepth 100000 in
set_option maxHeartbeats 8000000 in
theorem rstep_four2 (v vs : Value) (l : List Tm) (s : List Bool) (i : Nat) (w : World) (hv : TermsAt w v l) (hs : RowAt w vs (bools s)) (hl : s.length = l.length) (hsh : Ts.Shape l) (hi : i < l.length) (hop : (Ts.tm l i).op = 4) (hia : s.getD (Ts.tm l i).a.toNat false = true) (hpb : Ts.pub l s (Ts.tm l i).b = false) (hib : s.getD (Ts.tm l i).b.toNat false = true) (hpa : Ts.pub l s (Ts.tm l i).a = true) :
    Calls Try.prog 23 #[v, vs, .int .i64 i] w fun r w' => r = .returned (.bool (Ts.rstep l s i)) ∧ Below w.heap.size w w' := by
  have HV := Lib.hid hv
  have HS := Lib.hid hs
  have hfit : Fits l.length (Ts.tm l i) := ⟨hsh.op i hi, fun h => by have := hsh.a i hi h; omega, fun h => by have := hsh.b i hi h; omega⟩
  obtain ⟨A, c, rfl, hc, hm⟩ := RowsAt.form hv
  obtain ⟨B, d, rfl, hd, hm2⟩ := bools_form hs
  obtain ⟨gt, offt, rfl, hgt, t1, t2, t3⟩ := hv.at i hi
  rw [hl] at HS hd hs ⊢
  have HL := Lib.hid hl
  have HSH := Lib.hid hsh
  obtain ⟨gs, offs, rfl, hgs, _⟩ := bools_at hs (k := i) (by rw [HL.out]; exact hi)
  have hrs := Ts.rstep_a (l := l) (s := s) (i := i)
  generalize Ts.tm l i = t at t1 t2 t3 hop hfit hrs hia hpb hib hpa
  have HRA := Lib.hid (hrs (by unfold Ts.stepA; rw [hia, hpb, hib, hpa]; simp [hop]))
  clear hrs
  obtain ⟨a1, a2⟩ := hfit.a (by omega)
  obtain ⟨b1, b2⟩ := hfit.b (by omega)
  have p2 : (t.op == 2) = false := by simp; omega
  have p3 : (t.op == 3) = false := by simp; omega
  have p1 : (t.op == 1) = false := by simp; omega
  have p4 : (t.op == 4) = true := by simp; omega
  have p5 : decide (4 < t.op) = false := by simp; omega
  have HW0 := Lib.hid ((Below.refl w.heap.size w).alloc (Nat.le_refl _) (.cells #[.int .i64 t.op, .int .i64 t.a, .int .i64 t.b] 61))
  have hba := fun w1 (hb : Below w.heap.size w w1) => bools_at (HS.out.below hb) (k := t.a.toNat) (by rw [HL.out]; omega)
  have hbb := fun w1 (hb : Below w.heap.size w w1) => bools_at (HS.out.below hb) (k := t.b.toNat) (by rw [HL.out]; omega)
  have hkb := fun w1 (hb : Below w.heap.size w w1) => rkey_any _ _ l s t.b w1 (HV.out.below hb) (HS.out.below hb) HL.out
  have hka := fun w1 (hb : Below w.heap.size w w1) => rkey_any _ _ l s t.a w1 (HV.out.below hb) (HS.out.below hb) HL.out
  rw [hia] at hba
  rw [hpb] at hkb
  rw [hib] at hbb
  rw [hpa] at hka
  have HBA := Lib.hid hba; have HBB := Lib.hid hbb; have HKA := Lib.hid hka; have HKB := Lib.hid hkb
  have hta : ∀ w1, Below (w.heap.size + 1) (w.alloc (.cells #[.int .i64 t.op, .int .i64 t.a, .int .i64 t.b] 61)) w1 → Below w.heap.size w w1 ∧ w1.cell? ⟨w.heap.size, 1, none⟩ = some (.int .i64 t.a) ∧ w1.cell? ⟨w.heap.size, 2, none⟩ = some (.int .i64 t.b) ∧ w.heap.size + 1 ≤ w1.heap.size := fun w1 hb =>
    ⟨HW0.out.trans (hb.mono (by omega)), (hb.cell (p := ⟨w.heap.size, 1, none⟩) (by simp)).trans (by simp), (hb.cell (p := ⟨w.heap.size, 2, none⟩) (by simp)).trans (by simp), by have := hb.size; simp at this; omega⟩
  have HTA := Lib.hid hta
  have a3 : t.a < (l.length : Int) := by omega
  have b3 : t.b < (l.length : Int) := by omega
  clear hv hs hm2 hl hsh hop hfit a2 b2 hba hbb hka hkb hta hia hpb hib hpa
  go_enter Try.func23, Try.ntmps23
  go_wp2_with fail
  refine (HKB.out _ HW0.out).mono ?_
  rintro e w1 ⟨rfl, hb1⟩
  have HB1 := Lib.hid (show Below (w.heap.size + 1) (w.alloc (.cells #[.int .i64 t.op, .int .i64 t.a, .int .i64 t.b] 61)) w1 from hb1.mono (by simp))
  obtain ⟨q1, q2, q3, q4⟩ := HTA.out _ HB1.out
  have Q1 := Lib.hid q1
  clear hb1 q1
  go_wp2_with fail
  refine (HKA.out _ Q1.out).mono ?_
  rintro e w2 ⟨rfl, hb2⟩
  have HB2 := Lib.hid (HB1.out.trans (hb2.mono q4))
  clear q2 q3 q4 hb2
  obtain ⟨q1, q2, q3, q4⟩ := HTA.out _ HB2.out
  obtain ⟨_, _, hq, _, xa⟩ := HBA.out _ q1
  simp only [Option.some.injEq, Addr.mk.injEq, true_and, and_true] at hq
  obtain ⟨rfl, rfl⟩ := hq
  obtain ⟨_, _, hq, _, xb⟩ := HBB.out _ q1
  simp only [Option.some.injEq, Addr.mk.injEq, true_and, and_true] at hq
  obtain ⟨rfl, rfl⟩ := hq
  clear HW0
  have HW0 := Lib.hid q1
  clear q1
  go_wp2
  go_ret
  exact ⟨ret_bool' (by rw [HRA.out]), HW0.out⟩

set_option maxRecDepth 100000 in
set_option maxHeartbeats 8000000 in
theorem rstep_four3 (v vs : Value) (l : List Tm) (s : List Bool) (i : Nat) (w : World) (hv : TermsAt w v l) (hs : RowAt w vs (bools s)) (hl : s.length = l.length) (hsh : Ts.Shape l) (hi : i < l.length) (hop : (Ts.tm l i).op = 4) (hia : s.getD (Ts.tm l i).a.toNat false = false) (hib : s.getD (Ts.tm l i).b.toNat false = true) (hpa : Ts.pub l s (Ts.tm l i).a = true) :
    Calls Try.prog 23 #[v, vs, .int .i64 i] w fun r w' => r = .returned (.bool (Ts.rstep l s i)) ∧ Below w.heap.size w w' := by
  have HV := Lib.hid hv
  have HS := Lib.hid hs
  have hfit : Fits l.length (Ts.tm l i) := ⟨hsh.op i hi, fun h => by have := hsh.a i hi h; omega, fun h => by have := hsh.b i hi h; omega⟩
  obtain ⟨A, c, rfl, hc, hm⟩ := RowsAt.form hv
  obtain ⟨B, d, rfl, hd, hm2⟩ := bools_form hs
  obtain ⟨gt, offt, rfl, hgt, t1, t2, t3⟩ := hv.at i hi
  rw [hl] at HS hd hs ⊢
  have HL := Lib.hid hl
  have HSH := Lib.hid hsh
  obtain ⟨gs, offs, rfl, hgs, _⟩ := bools_at hs (k := i) (by rw [HL.out]; exact hi)
  have hrs := Ts.rstep_a (l := l) (s := s) (i := i)
  generalize Ts.tm l i = t at t1 t2 t3 hop hfit hrs hia hib hpa
  have HRA := Lib.hid (hrs (by unfold Ts.stepA; rw [hia, hib, hpa]; simp [hop]))
  clear hrs
  obtain ⟨a1, a2⟩ := hfit.a (by omega)
  obtain ⟨b1, b2⟩ := hfit.b (by omega)
  have p2 : (t.op == 2) = false := by simp; omega
  have p3 : (t.op == 3) = false := by simp; omega
  have p1 : (t.op == 1) = false := by simp; omega
  have p4 : (t.op == 4) = true := by simp; omega
  have p5 : decide (4 < t.op) = false := by simp; omega
  have HW0 := Lib.hid ((Below.refl w.heap.size w).alloc (Nat.le_refl _) (.cells #[.int .i64 t.op, .int .i64 t.a, .int .i64 t.b] 61))
  have hba := fun w1 (hb : Below w.heap.size w w1) => bools_at (HS.out.below hb) (k := t.a.toNat) (by rw [HL.out]; omega)
  have hbb := fun w1 (hb : Below w.heap.size w w1) => bools_at (HS.out.below hb) (k := t.b.toNat) (by rw [HL.out]; omega)
  have hkb := fun w1 (hb : Below w.heap.size w w1) => rkey_any _ _ l s t.b w1 (HV.out.below hb) (HS.out.below hb) HL.out
  have hka := fun w1 (hb : Below w.heap.size w w1) => rkey_any _ _ l s t.a w1 (HV.out.below hb) (HS.out.below hb) HL.out
  rw [hia] at hba
  generalize Ts.pub l s t.b = pb at hkb
  rw [hib] at hbb
  rw [hpa] at hka
  have HBA := Lib.hid hba; have HBB := Lib.hid hbb; have HKA := Lib.hid hka; have HKB := Lib.hid hkb
  have hta : ∀ w1, Below (w.heap.size + 1) (w.alloc (.cells #[.int .i64 t.op, .int .i64 t.a, .int .i64 t.b] 61)) w1 → Below w.heap.size w w1 ∧ w1.cell? ⟨w.heap.size, 1, none⟩ = some (.int .i64 t.a) ∧ w1.cell? ⟨w.heap.size, 2, none⟩ = some (.int .i64 t.b) ∧ w.heap.size + 1 ≤ w1.heap.size := fun w1 hb =>
    ⟨HW0.out.trans (hb.mono (by omega)), (hb.cell (p := ⟨w.heap.size, 1, none⟩) (by simp)).trans (by simp), (hb.cell (p := ⟨w.heap.size, 2, none⟩) (by simp)).trans (by simp), by have := hb.size; simp at this; omega⟩
  have HTA := Lib.hid hta
  have a3 : t.a < (l.length : Int) := by omega
  have b3 : t.b < (l.length : Int) := by omega
  clear hv hs hm2 hl hsh hop hfit a2 b2 hba hbb hka hkb hta hia hib hpa
  go_enter Try.func23, Try.ntmps23
  go_wp2_with fail
  refine (HKB.out _ HW0.out).mono ?_
  rintro e w1 ⟨rfl, hb1⟩
  have HB1 := Lib.hid (show Below (w.heap.size + 1) (w.alloc (.cells #[.int .i64 t.op, .int .i64 t.a, .int .i64 t.b] 61)) w1 from hb1.mono (by simp))
  obtain ⟨q1, q2, q3, q4⟩ := HTA.out _ HB1.out
  have Q1 := Lib.hid q1
  clear hb1 q1
  go_wp2_with fail
  refine (HKA.out _ Q1.out).mono ?_
  rintro e w2 ⟨rfl, hb2⟩
  have HB2 := Lib.hid (HB1.out.trans (hb2.mono q4))
  clear q2 q3 q4 hb2
  obtain ⟨q1, q2, q3, q4⟩ := HTA.out _ HB2.out
  obtain ⟨_, _, hq, _, xa⟩ := HBA.out _ q1
  simp only [Option.some.injEq, Addr.mk.injEq, true_and, and_true] at hq
  obtain ⟨rfl, rfl⟩ := hq
  obtain ⟨_, _, hq, _, xb⟩ := HBB.out _ q1
  simp only [Option.some.injEq, Addr.mk.injEq, true_and, and_true] at hq
  obtain ⟨rfl, rfl⟩ := hq
  clear HW0
  have HW0 := Lib.hid q1
  clear q1
  go_wp2
  go_ret
  exact ⟨ret_bool' (by rw [HRA.out]), HW0.out⟩

set_option maxRecDepth 100000 in
set_option maxHeartbeats 8000000 in
theorem rstep_four4 (v vs : Value) (l : List Tm) (s : List Bool) (i : Nat) (w : World) (hv : TermsAt w v l) (hs : RowAt w vs (bools s)) (hl : s.length = l.length) (hsh : Ts.Shape l) (hi : i < l.length) (hop : (Ts.tm l i).op = 4) (hia : s.getD (Ts.tm l i).a.toNat false = true) (hpb : Ts.pub l s (Ts.tm l i).b = false) (hib : s.getD (Ts.tm l i).b.toNat false = true) (hpa : Ts.pub l s (Ts.tm l i).a = false) :
    Calls Try.prog 23 #[v, vs, .int .i64 i] w fun r w' => r = .returned (.bool (Ts.rstep l s i)) ∧ Below w.heap.size w w' := by
  have HV := Lib.hid hv
  have HS := Lib.hid hs
  have hfit : Fits l.length (Ts.tm l i) := ⟨hsh.op i hi, fun h => by have := hsh.a i hi h; omega, fun h => by have := hsh.b i hi h; omega⟩
  obtain ⟨A, c, rfl, hc, hm⟩ := RowsAt.form hv
  obtain ⟨B, d, rfl, hd, hm2⟩ := bools_form hs
  obtain ⟨gt, offt, rfl, hgt, t1, t2, t3⟩ := hv.at i hi
  rw [hl] at HS hd hs ⊢
  have HL := Lib.hid hl
  have HSH := Lib.hid hsh
  obtain ⟨gs, offs, rfl, hgs, _⟩ := bools_at hs (k := i) (by rw [HL.out]; exact hi)
  have hrs := Ts.rstep_b (l := l) (s := s) (i := i)
  generalize Ts.tm l i = t at t1 t2 t3 hop hfit hrs hia hpb hib hpa
  have HRB := Lib.hid (hrs (by unfold Ts.stepA; rw [hia, hpb, hib, hpa]; simp [hop]))
  clear hrs
  obtain ⟨a1, a2⟩ := hfit.a (by omega)
  obtain ⟨b1, b2⟩ := hfit.b (by omega)
  have p2 : (t.op == 2) = false := by simp; omega
  have p3 : (t.op == 3) = false := by simp; omega
  have p1 : (t.op == 1) = false := by simp; omega
  have p4 : (t.op == 4) = true := by simp; omega
  have p5 : decide (4 < t.op) = false := by simp; omega
  have HW0 := Lib.hid ((Below.refl w.heap.size w).alloc (Nat.le_refl _) (.cells #[.int .i64 t.op, .int .i64 t.a, .int .i64 t.b] 61))
  have hba := fun w1 (hb : Below w.heap.size w w1) => bools_at (HS.out.below hb) (k := t.a.toNat) (by rw [HL.out]; omega)
  have hbb := fun w1 (hb : Below w.heap.size w w1) => bools_at (HS.out.below hb) (k := t.b.toNat) (by rw [HL.out]; omega)
  have hkb := fun w1 (hb : Below w.heap.size w w1) => rkey_any _ _ l s t.b w1 (HV.out.below hb) (HS.out.below hb) HL.out
  have hka := fun w1 (hb : Below w.heap.size w w1) => rkey_any _ _ l s t.a w1 (HV.out.below hb) (HS.out.below hb) HL.out
  rw [hia] at hba
  rw [hpb] at hkb
  rw [hib] at hbb
  rw [hpa] at hka
  have HBA := Lib.hid hba; have HBB := Lib.hid hbb; have HKA := Lib.hid hka; have HKB := Lib.hid hkb
  have hta : ∀ w1, Below (w.heap.size + 1) (w.alloc (.cells #[.int .i64 t.op, .int .i64 t.a, .int .i64 t.b] 61)) w1 → Below w.heap.size w w1 ∧ w1.cell? ⟨w.heap.size, 1, none⟩ = some (.int .i64 t.a) ∧ w1.cell? ⟨w.heap.size, 2, none⟩ = some (.int .i64 t.b) ∧ w.heap.size + 1 ≤ w1.heap.size := fun w1 hb =>
    ⟨HW0.out.trans (hb.mono (by omega)), (hb.cell (p := ⟨w.heap.size, 1, none⟩) (by simp)).trans (by simp), (hb.cell (p := ⟨w.heap.size, 2, none⟩) (by simp)).trans (by simp), by have := hb.size; simp at this; omega⟩
  have HTA := Lib.hid hta
  have a3 : t.a < (l.length : Int) := by omega
  have b3 : t.b < (l.length : Int) := by omega
  clear hv hs hm2 hl hsh hop hfit a2 b2 hba hbb hka hkb hta hia hpb hib hpa
  go_enter Try.func23, Try.ntmps23
  go_wp2_with fail
  refine (HKB.out _ HW0.out).mono ?_
  rintro e w1 ⟨rfl, hb1⟩
  have HB1 := Lib.hid (show Below (w.heap.size + 1) (w.alloc (.cells #[.int .i64 t.op, .int .i64 t.a, .int .i64 t.b] 61)) w1 from hb1.mono (by simp))
  obtain ⟨q1, q2, q3, q4⟩ := HTA.out _ HB1.out
  have Q1 := Lib.hid q1
  clear hb1 q1
  go_wp2_with fail
  refine (HKA.out _ Q1.out).mono ?_
  rintro e w2 ⟨rfl, hb2⟩
  have HB2 := Lib.hid (HB1.out.trans (hb2.mono q4))
  clear q2 q3 q4 hb2
  obtain ⟨q1, q2, q3, q4⟩ := HTA.out _ HB2.out
  obtain ⟨_, _, hq, _, xa⟩ := HBA.out _ q1
  simp only [Option.some.injEq, Addr.mk.injEq, true_and, and_true] at hq
  obtain ⟨rfl, rfl⟩ := hq
  obtain ⟨_, _, hq, _, xb⟩ := HBB.out _ q1
  simp only [Option.some.injEq, Addr.mk.injEq, true_and, and_true] at hq
  obtain ⟨rfl, rfl⟩ := hq
  clear HW0
  have HW0 := Lib.hid q1
  clear q1
  go_wp2
  go_loopw [6, 10] (fun _ i' wr => ∃ k : Nat, k ≤ l.length ∧ i' = .int .i64 k ∧ Below w.heap.size w wr ∧ Ts.stepTo l s i k = false) (fun _ i' _ => l.length - (intOf i').toNat)
  case atStart => exact ⟨0, Nat.zero_le _, rfl, HW0.out, rfl⟩
  case round =>
    obtain ⟨k, hk, rfl, hb, hall⟩ := hrel
    have HA := Lib.hid hall; clear hall
    have HB := Lib.hid hb
    by_cases hlt : k < l.length
    · obtain ⟨g, off, hq, hg, x1, x2, x3⟩ := (HV.out.below hb).at k hlt
      simp only [Option.some.injEq, Addr.mk.injEq, true_and, and_true] at hq
      obtain ⟨rfl, rfl⟩ := hq
      obtain ⟨_, _, hq, hg2, x4⟩ := bools_at (HS.out.below hb) (k := k) (by rw [HL.out]; exact hlt)
      simp only [Option.some.injEq, Addr.mk.injEq, true_and, and_true] at hq
      obtain ⟨rfl, rfl⟩ := hq
      have HN := Lib.hid (Ts.stepTo_next HA.out)
      have HT := Lib.hid (fun (h : Ts.stepTo l s i (k + 1) = true) => HRB.out.trans (Ts.stepTo_true hlt h))
      have hka := HSH.out.a k hlt
      have hxa := fun (h : (Ts.tm l k).op = 5) => bools_at (HS.out.below hb) (k := (Ts.tm l k).a.toNat) (by rw [HL.out]; have := hka (by omega); omega)
      generalize Ts.tm l k = t at *
      generalize hsk : s.getD k false = sk at *
      clear hsk hb
      cases sk
      · have HX := Lib.hid (show Ts.stepTo l s i (k + 1) = false by rw [HN.out]; simp [Ts.stepB])
        clear hka hxa
        go_wp2
        go_roundw
        case rel => exact ⟨k + 1, hlt, by go_num, HB.out, HX.out⟩
        case measure => simp [intOf]; omega
      · by_cases o1 : t.op = 1
        · have o1' : (t.op == 1) = true := by simp [o1]
          by_cases e1 : t.a = i
          · have e1' : (t.a == (i : Int)) = true := by simp [e1]
            have HP := Lib.hid (HT.out (by rw [HN.out]; simp [Ts.stepB, o1, e1]))
            clear hka hxa o1 e1
            go_wp2
            go_ret
            exact ⟨ret_bool' (by rw [HP.out]), HB.out⟩
          · have e1' : (t.a == (i : Int)) = false := by simp [e1]
            by_cases e2 : t.b = i
            · have e2' : (t.b == (i : Int)) = true := by simp [e2]
              have HP := Lib.hid (HT.out (by rw [HN.out]; simp [Ts.stepB, o1, e2]))
              clear hka hxa o1 e1 e2
              go_wp2
              go_ret
              exact ⟨ret_bool' (by rw [HP.out]), HB.out⟩
            · have e2' : (t.b == (i : Int)) = false := by simp [e2]
              have o5' : (t.op == 5) = false := by simp; omega
              have HX := Lib.hid (show Ts.stepTo l s i (k + 1) = false by rw [HN.out]; simp [Ts.stepB, o1, e1, e2])
              clear hka hxa o1 e1 e2
              go_wp2
              go_roundw
              case rel => exact ⟨k + 1, hlt, by go_num, HB.out, HX.out⟩
              case measure => simp [intOf]; omega
        · have o1' : (t.op == 1) = false := by simp [o1]
          by_cases o5 : t.op = 5
          · have o5' : (t.op == 5) = true := by simp [o5]
            by_cases e2 : t.b = i
            · have e2' : (t.b == (i : Int)) = true := by simp [e2]
              obtain ⟨a1, a2⟩ := hka (by omega)
              obtain ⟨g3, off3, hq, _, x5⟩ := hxa o5
              simp only [Option.some.injEq, Addr.mk.injEq, true_and, and_true] at hq
              obtain ⟨rfl, rfl⟩ := hq
              have a3 : t.a < (l.length : Int) := by omega
              have HY := Lib.hid (show Ts.stepTo l s i (k + 1) = s.getD t.a.toNat false by rw [HN.out]; simp [Ts.stepB, o5, e2])
              generalize s.getD t.a.toNat false = sa at *
              clear hka hxa o1 o5 e2 a2
              cases sa
              · go_wp2
                go_roundw
                case rel => exact ⟨k + 1, hlt, by go_num, HB.out, HY.out⟩
                case measure => simp [intOf]; omega
              · have HP := Lib.hid (HT.out HY.out)
                go_wp2
                go_ret
                exact ⟨ret_bool' (by rw [HP.out]), HB.out⟩
            · have e2' : (t.b == (i : Int)) = false := by simp [e2]
              have HX := Lib.hid (show Ts.stepTo l s i (k + 1) = false by rw [HN.out]; simp [Ts.stepB, o1, o5, e2])
              clear hka hxa o1 o5 e2
              go_wp2
              go_roundw
              case rel => exact ⟨k + 1, hlt, by go_num, HB.out, HX.out⟩
              case measure => simp [intOf]; omega
          · have o5' : (t.op == 5) = false := by simp [o5]
            have HX := Lib.hid (show Ts.stepTo l s i (k + 1) = false by rw [HN.out]; simp [Ts.stepB, o1, o5])
            clear hka hxa o1 o5
            go_wp2
            go_roundw
            case rel => exact ⟨k + 1, hlt, by go_num, HB.out, HX.out⟩
            case measure => simp [intOf]; omega
    · have HX := Lib.hid (show Ts.rstep l s i = false by rw [HRB.out, ← HA.out, show k = l.length by omega])
      go_wp2
      go_ret
      exact ⟨ret_bool' (by rw [HX.out]), hb⟩

set_option maxRecDepth 100000 in
set_option maxHeartbeats 8000000 in
theorem rstep_four5 (v vs : Value) (l : List Tm) (s : List Bool) (i : Nat) (w : World) (hv : TermsAt w v l) (hs : RowAt w vs (bools s)) (hl : s.length = l.length) (hsh : Ts.Shape l) (hi : i < l.length) (hop : (Ts.tm l i).op = 4) (hia : s.getD (Ts.tm l i).a.toNat false = true) (hpb : Ts.pub l s (Ts.tm l i).b = false) (hib : s.getD (Ts.tm l i).b.toNat false = false) :
    Calls Try.prog 23 #[v, vs, .int .i64 i] w fun r w' => r = .returned (.bool (Ts.rstep l s i)) ∧ Below w.heap.size w w' := by
  have HV := Lib.hid hv
  have HS := Lib.hid hs
  have hfit : Fits l.length (Ts.tm l i) := ⟨hsh.op i hi, fun h => by have := hsh.a i hi h; omega, fun h => by have := hsh.b i hi h; omega⟩
  obtain ⟨A, c, rfl, hc, hm⟩ := RowsAt.form hv
  obtain ⟨B, d, rfl, hd, hm2⟩ := bools_form hs
  obtain ⟨gt, offt, rfl, hgt, t1, t2, t3⟩ := hv.at i hi
  rw [hl] at HS hd hs ⊢
  have HL := Lib.hid hl
  have HSH := Lib.hid hsh
  obtain ⟨gs, offs, rfl, hgs, _⟩ := bools_at hs (k := i) (by rw [HL.out]; exact hi)
  have hrs := Ts.rstep_b (l := l) (s := s) (i := i)
  generalize Ts.tm l i = t at t1 t2 t3 hop hfit hrs hia hpb hib
  have HRB := Lib.hid (hrs (by unfold Ts.stepA; rw [hia, hpb, hib]; simp [hop]))
  clear hrs
  obtain ⟨a1, a2⟩ := hfit.a (by omega)
  obtain ⟨b1, b2⟩ := hfit.b (by omega)
  have p2 : (t.op == 2) = false := by simp; omega
  have p3 : (t.op == 3) = false := by simp; omega
  have p1 : (t.op == 1) = false := by simp; omega
  have p4 : (t.op == 4) = true := by simp; omega
  have p5 : decide (4 < t.op) = false := by simp; omega
  have HW0 := Lib.hid ((Below.refl w.heap.size w).alloc (Nat.le_refl _) (.cells #[.int .i64 t.op, .int .i64 t.a, .int .i64 t.b] 61))
  have hba := fun w1 (hb : Below w.heap.size w w1) => bools_at (HS.out.below hb) (k := t.a.toNat) (by rw [HL.out]; omega)
  have hbb := fun w1 (hb : Below w.heap.size w w1) => bools_at (HS.out.below hb) (k := t.b.toNat) (by rw [HL.out]; omega)
  have hkb := fun w1 (hb : Below w.heap.size w w1) => rkey_any _ _ l s t.b w1 (HV.out.below hb) (HS.out.below hb) HL.out
  have hka := fun w1 (hb : Below w.heap.size w w1) => rkey_any _ _ l s t.a w1 (HV.out.below hb) (HS.out.below hb) HL.out
  rw [hia] at hba
  rw [hpb] at hkb
  rw [hib] at hbb
  generalize Ts.pub l s t.a = pa at hka
  have HBA := Lib.hid hba; have HBB := Lib.hid hbb; have HKA := Lib.hid hka; have HKB := Lib.hid hkb
  have hta : ∀ w1, Below (w.heap.size + 1) (w.alloc (.cells #[.int .i64 t.op, .int .i64 t.a, .int .i64 t.b] 61)) w1 → Below w.heap.size w w1 ∧ w1.cell? ⟨w.heap.size, 1, none⟩ = some (.int .i64 t.a) ∧ w1.cell? ⟨w.heap.size, 2, none⟩ = some (.int .i64 t.b) ∧ w.heap.size + 1 ≤ w1.heap.size := fun w1 hb =>
    ⟨HW0.out.trans (hb.mono (by omega)), (hb.cell (p := ⟨w.heap.size, 1, none⟩) (by simp)).trans (by simp), (hb.cell (p := ⟨w.heap.size, 2, none⟩) (by simp)).trans (by simp), by have := hb.size; simp at this; omega⟩
  have HTA := Lib.hid hta
  have a3 : t.a < (l.length : Int) := by omega
  have b3 : t.b < (l.length : Int) := by omega
  clear hv hs hm2 hl hsh hop hfit a2 b2 hba hbb hka hkb hta hia hpb hib
  go_enter Try.func23, Try.ntmps23
  go_wp2_with fail
  refine (HKB.out _ HW0.out).mono ?_
  rintro e w1 ⟨rfl, hb1⟩
  have HB1 := Lib.hid (show Below (w.heap.size + 1) (w.alloc (.cells #[.int .i64 t.op, .int .i64 t.a, .int .i64 t.b] 61)) w1 from hb1.mono (by simp))
  obtain ⟨q1, q2, q3, q4⟩ := HTA.out _ HB1.out
  have Q1 := Lib.hid q1
  clear hb1 q1
  go_wp2_with fail
  refine (HKA.out _ Q1.out).mono ?_
  rintro e w2 ⟨rfl, hb2⟩
  have HB2 := Lib.hid (HB1.out.trans (hb2.mono q4))
  clear q2 q3 q4 hb2
  obtain ⟨q1, q2, q3, q4⟩ := HTA.out _ HB2.out
  obtain ⟨_, _, hq, _, xa⟩ := HBA.out _ q1
  simp only [Option.some.injEq, Addr.mk.injEq, true_and, and_true] at hq
  obtain ⟨rfl, rfl⟩ := hq
  obtain ⟨_, _, hq, _, xb⟩ := HBB.out _ q1
  simp only [Option.some.injEq, Addr.mk.injEq, true_and, and_true] at hq
  obtain ⟨rfl, rfl⟩ := hq
  clear HW0
  have HW0 := Lib.hid q1
  clear q1
  go_wp2
  go_loopw [6, 10] (fun _ i' wr => ∃ k : Nat, k ≤ l.length ∧ i' = .int .i64 k ∧ Below w.heap.size w wr ∧ Ts.stepTo l s i k = false) (fun _ i' _ => l.length - (intOf i').toNat)
  case atStart => exact ⟨0, Nat.zero_le _, rfl, HW0.out, rfl⟩
  case round =>
    obtain ⟨k, hk, rfl, hb, hall⟩ := hrel
    have HA := Lib.hid hall; clear hall
    have HB := Lib.hid hb
    by_cases hlt : k < l.length
    · obtain ⟨g, off, hq, hg, x1, x2, x3⟩ := (HV.out.below hb).at k hlt
      simp only [Option.some.injEq, Addr.mk.injEq, true_and, and_true] at hq
      obtain ⟨rfl, rfl⟩ := hq
      obtain ⟨_, _, hq, hg2, x4⟩ := bools_at (HS.out.below hb) (k := k) (by rw [HL.out]; exact hlt)
      simp only [Option.some.injEq, Addr.mk.injEq, true_and, and_true] at hq
      obtain ⟨rfl, rfl⟩ := hq
      have HN := Lib.hid (Ts.stepTo_next HA.out)
      have HT := Lib.hid (fun (h : Ts.stepTo l s i (k + 1) = true) => HRB.out.trans (Ts.stepTo_true hlt h))
      have hka := HSH.out.a k hlt
      have hxa := fun (h : (Ts.tm l k).op = 5) => bools_at (HS.out.below hb) (k := (Ts.tm l k).a.toNat) (by rw [HL.out]; have := hka (by omega); omega)
      generalize Ts.tm l k = t at *
      generalize hsk : s.getD k false = sk at *
      clear hsk hb
      cases sk
      · have HX := Lib.hid (show Ts.stepTo l s i (k + 1) = false by rw [HN.out]; simp [Ts.stepB])
        clear hka hxa
        go_wp2
        go_roundw
        case rel => exact ⟨k + 1, hlt, by go_num, HB.out, HX.out⟩
        case measure => simp [intOf]; omega
      · by_cases o1 : t.op = 1
        · have o1' : (t.op == 1) = true := by simp [o1]
          by_cases e1 : t.a = i
          · have e1' : (t.a == (i : Int)) = true := by simp [e1]
            have HP := Lib.hid (HT.out (by rw [HN.out]; simp [Ts.stepB, o1, e1]))
            clear hka hxa o1 e1
            go_wp2
            go_ret
            exact ⟨ret_bool' (by rw [HP.out]), HB.out⟩
          · have e1' : (t.a == (i : Int)) = false := by simp [e1]
            by_cases e2 : t.b = i
            · have e2' : (t.b == (i : Int)) = true := by simp [e2]
              have HP := Lib.hid (HT.out (by rw [HN.out]; simp [Ts.stepB, o1, e2]))
              clear hka hxa o1 e1 e2
              go_wp2
              go_ret
              exact ⟨ret_bool' (by rw [HP.out]), HB.out⟩
            · have e2' : (t.b == (i : Int)) = false := by simp [e2]
              have o5' : (t.op == 5) = false := by simp; omega
              have HX := Lib.hid (show Ts.stepTo l s i (k + 1) = false by rw [HN.out]; simp [Ts.stepB, o1, e1, e2])
              clear hka hxa o1 e1 e2
              go_wp2
              go_roundw
              case rel => exact ⟨k + 1, hlt, by go_num, HB.out, HX.out⟩
              case measure => simp [intOf]; omega
        · have o1' : (t.op == 1) = false := by simp [o1]
          by_cases o5 : t.op = 5
          · have o5' : (t.op == 5) = true := by simp [o5]
            by_cases e2 : t.b = i
            · have e2' : (t.b == (i : Int)) = true := by simp [e2]
              obtain ⟨a1, a2⟩ := hka (by omega)
              obtain ⟨g3, off3, hq, _, x5⟩ := hxa o5
              simp only [Option.some.injEq, Addr.mk.injEq, true_and, and_true] at hq
              obtain ⟨rfl, rfl⟩ := hq
              have a3 : t.a < (l.length : Int) := by omega
              have HY := Lib.hid (show Ts.stepTo l s i (k + 1) = s.getD t.a.toNat false by rw [HN.out]; simp [Ts.stepB, o5, e2])
              generalize s.getD t.a.toNat false = sa at *
              clear hka hxa o1 o5 e2 a2
              cases sa
              · go_wp2
                go_roundw
                case rel => exact ⟨k + 1, hlt, by go_num, HB.out, HY.out⟩
                case measure => simp [intOf]; omega
              · have HP := Lib.hid (HT.out HY.out)
                go_wp2
                go_ret
                exact ⟨ret_bool' (by rw [HP.out]), HB.out⟩
            · have e2' : (t.b == (i : Int)) = false := by simp [e2]
              have HX := Lib.hid (show Ts.stepTo l s i (k + 1) = false by rw [HN.out]; simp [Ts.stepB, o1, o5, e2])
              clear hka hxa o1 o5 e2
              go_wp2
              go_roundw
              case rel => exact ⟨k + 1, hlt, by go_num, HB.out, HX.out⟩
              case measure => simp [intOf]; omega
          · have o5' : (t.op == 5) = false := by simp [o5]
            have HX := Lib.hid (show Ts.stepTo l s i (k + 1) = false by rw [HN.out]; simp [Ts.stepB, o1, o5])
            clear hka hxa o1 o5
            go_wp2
            go_roundw
            case rel => exact ⟨k + 1, hlt, by go_num, HB.out, HX.out⟩
            case measure => simp [intOf]; omega
    · have HX := Lib.hid (show Ts.rstep l s i = false by rw [HRB.out, ← HA.out, show k = l.length by omega])
      go_wp2
      go_ret
      exact ⟨ret_bool' (by rw [HX.out]), hb⟩

set_option maxRecDepth 100000 in
set_option maxHeartbeats 8000000 in
theorem rstep_four6 (v vs : Value) (l : List Tm) (s : List Bool) (i : Nat) (w : World) (hv : TermsAt w v l) (hs : RowAt w vs (bools s)) (hl : s.length = l.length) (hsh : Ts.Shape l) (hi : i < l.length) (hop : (Ts.tm l i).op = 4) (hia : s.getD (Ts.tm l i).a.toNat false = false) (hib : s.getD (Ts.tm l i).b.toNat false = true) (hpa : Ts.pub l s (Ts.tm l i).a = false) :
    Calls Try.prog 23 #[v, vs, .int .i64 i] w fun r w' => r = .returned (.bool (Ts.rstep l s i)) ∧ Below w.heap.size w w' := by
  have HV := Lib.hid hv
  have HS := Lib.hid hs
  have hfit : Fits l.length (Ts.tm l i) := ⟨hsh.op i hi, fun h => by have := hsh.a i hi h; omega, fun h => by have := hsh.b i hi h; omega⟩
  obtain ⟨A, c, rfl, hc, hm⟩ := RowsAt.form hv
  obtain ⟨B, d, rfl, hd, hm2⟩ := bools_form hs
  obtain ⟨gt, offt, rfl, hgt, t1, t2, t3⟩ := hv.at i hi
  rw [hl] at HS hd hs ⊢
  have HL := Lib.hid hl
  have HSH := Lib.hid hsh
  obtain ⟨gs, offs, rfl, hgs, _⟩ := bools_at hs (k := i) (by rw [HL.out]; exact hi)
  have hrs := Ts.rstep_b (l := l) (s := s) (i := i)
  generalize Ts.tm l i = t at t1 t2 t3 hop hfit hrs hia hib hpa
  have HRB := Lib.hid (hrs (by unfold Ts.stepA; rw [hia, hib, hpa]; simp [hop]))
  clear hrs
  obtain ⟨a1, a2⟩ := hfit.a (by omega)
  obtain ⟨b1, b2⟩ := hfit.b (by omega)
  have p2 : (t.op == 2) = false := by simp; omega
  have p3 : (t.op == 3) = false := by simp; omega
  have p1 : (t.op == 1) = false := by simp; omega
  have p4 : (t.op == 4) = true := by simp; omega
  have p5 : decide (4 < t.op) = false := by simp; omega
  have HW0 := Lib.hid ((Below.refl w.heap.size w).alloc (Nat.le_refl _) (.cells #[.int .i64 t.op, .int .i64 t.a, .int .i64 t.b] 61))
  have hba := fun w1 (hb : Below w.heap.size w w1) => bools_at (HS.out.below hb) (k := t.a.toNat) (by rw [HL.out]; omega)
  have hbb := fun w1 (hb : Below w.heap.size w w1) => bools_at (HS.out.below hb) (k := t.b.toNat) (by rw [HL.out]; omega)
  have hkb := fun w1 (hb : Below w.heap.size w w1) => rkey_any _ _ l s t.b w1 (HV.out.below hb) (HS.out.below hb) HL.out
  have hka := fun w1 (hb : Below w.heap.size w w1) => rkey_any _ _ l s t.a w1 (HV.out.below hb) (HS.out.below hb) HL.out
  rw [hia] at hba
  generalize Ts.pub l s t.b = pb at hkb
  rw [hib] at hbb
  rw [hpa] at hka
  have HBA := Lib.hid hba; have HBB := Lib.hid hbb; have HKA := Lib.hid hka; have HKB := Lib.hid hkb
  have hta : ∀ w1, Below (w.heap.size + 1) (w.alloc (.cells #[.int .i64 t.op, .int .i64 t.a, .int .i64 t.b] 61)) w1 → Below w.heap.size w w1 ∧ w1.cell? ⟨w.heap.size, 1, none⟩ = some (.int .i64 t.a) ∧ w1.cell? ⟨w.heap.size, 2, none⟩ = some (.int .i64 t.b) ∧ w.heap.size + 1 ≤ w1.heap.size := fun w1 hb =>
    ⟨HW0.out.trans (hb.mono (by omega)), (hb.cell (p := ⟨w.heap.size, 1, none⟩) (by simp)).trans (by simp), (hb.cell (p := ⟨w.heap.size, 2, none⟩) (by simp)).trans (by simp), by have := hb.size; simp at this; omega⟩
  have HTA := Lib.hid hta
  have a3 : t.a < (l.length : Int) := by omega
  have b3 : t.b < (l.length : Int) := by omega
  clear hv hs hm2 hl hsh hop hfit a2 b2 hba hbb hka hkb hta hia hib hpa
  go_enter Try.func23, Try.ntmps23
  go_wp2_with fail
  refine (HKB.out _ HW0.out).mono ?_
  rintro e w1 ⟨rfl, hb1⟩
  have HB1 := Lib.hid (show Below (w.heap.size + 1) (w.alloc (.cells #[.int .i64 t.op, .int .i64 t.a, .int .i64 t.b] 61)) w1 from hb1.mono (by simp))
  obtain ⟨q1, q2, q3, q4⟩ := HTA.out _ HB1.out
  have Q1 := Lib.hid q1
  clear hb1 q1
  go_wp2_with fail
  refine (HKA.out _ Q1.out).mono ?_
  rintro e w2 ⟨rfl, hb2⟩
  have HB2 := Lib.hid (HB1.out.trans (hb2.mono q4))
  clear q2 q3 q4 hb2
  obtain ⟨q1, q2, q3, q4⟩ := HTA.out _ HB2.out
  obtain ⟨_, _, hq, _, xa⟩ := HBA.out _ q1
  simp only [Option.some.injEq, Addr.mk.injEq, true_and, and_true] at hq
  obtain ⟨rfl, rfl⟩ := hq
  obtain ⟨_, _, hq, _, xb⟩ := HBB.out _ q1
  simp only [Option.some.injEq, Addr.mk.injEq, true_and, and_true] at hq
  obtain ⟨rfl, rfl⟩ := hq
  clear HW0
  have HW0 := Lib.hid q1
  clear q1
  go_wp2
  go_loopw [6, 10] (fun _ i' wr => ∃ k : Nat, k ≤ l.length ∧ i' = .int .i64 k ∧ Below w.heap.size w wr ∧ Ts.stepTo l s i k = false) (fun _ i' _ => l.length - (intOf i').toNat)
  case atStart => exact ⟨0, Nat.zero_le _, rfl, HW0.out, rfl⟩
  case round =>
    obtain ⟨k, hk, rfl, hb, hall⟩ := hrel
    have HA := Lib.hid hall; clear hall
    have HB := Lib.hid hb
    by_cases hlt : k < l.length
    · obtain ⟨g, off, hq, hg, x1, x2, x3⟩ := (HV.out.below hb).at k hlt
      simp only [Option.some.injEq, Addr.mk.injEq, true_and, and_true] at hq
      obtain ⟨rfl, rfl⟩ := hq
      obtain ⟨_, _, hq, hg2, x4⟩ := bools_at (HS.out.below hb) (k := k) (by rw [HL.out]; exact hlt)
      simp only [Option.some.injEq, Addr.mk.injEq, true_and, and_true] at hq
      obtain ⟨rfl, rfl⟩ := hq
      have HN := Lib.hid (Ts.stepTo_next HA.out)
      have HT := Lib.hid (fun (h : Ts.stepTo l s i (k + 1) = true) => HRB.out.trans (Ts.stepTo_true hlt h))
      have hka := HSH.out.a k hlt
      have hxa := fun (h : (Ts.tm l k).op = 5) => bools_at (HS.out.below hb) (k := (Ts.tm l k).a.toNat) (by rw [HL.out]; have := hka (by omega); omega)
      generalize Ts.tm l k = t at *
      generalize hsk : s.getD k false = sk at *
      clear hsk hb
      cases sk
      · have HX := Lib.hid (show Ts.stepTo l s i (k + 1) = false by rw [HN.out]; simp [Ts.stepB])
        clear hka hxa
        go_wp2
        go_roundw
        case rel => exact ⟨k + 1, hlt, by go_num, HB.out, HX.out⟩
        case measure => simp [intOf]; omega
      · by_cases o1 : t.op = 1
        · have o1' : (t.op == 1) = true := by simp [o1]
          by_cases e1 : t.a = i
          · have e1' : (t.a == (i : Int)) = true := by simp [e1]
            have HP := Lib.hid (HT.out (by rw [HN.out]; simp [Ts.stepB, o1, e1]))
            clear hka hxa o1 e1
            go_wp2
            go_ret
            exact ⟨ret_bool' (by rw [HP.out]), HB.out⟩
          · have e1' : (t.a == (i : Int)) = false := by simp [e1]
            by_cases e2 : t.b = i
            · have e2' : (t.b == (i : Int)) = true := by simp [e2]
              have HP := Lib.hid (HT.out (by rw [HN.out]; simp [Ts.stepB, o1, e2]))
              clear hka hxa o1 e1 e2
              go_wp2
              go_ret
              exact ⟨ret_bool' (by rw [HP.out]), HB.out⟩
            · have e2' : (t.b == (i : Int)) = false := by simp [e2]
              have o5' : (t.op == 5) = false := by simp; omega
              have HX := Lib.hid (show Ts.stepTo l s i (k + 1) = false by rw [HN.out]; simp [Ts.stepB, o1, e1, e2])
              clear hka hxa o1 e1 e2
              go_wp2
              go_roundw
              case rel => exact ⟨k + 1, hlt, by go_num, HB.out, HX.out⟩
              case measure => simp [intOf]; omega
        · have o1' : (t.op == 1) = false := by simp [o1]
          by_cases o5 : t.op = 5
          · have o5' : (t.op == 5) = true := by simp [o5]
            by_cases e2 : t.b = i
            · have e2' : (t.b == (i : Int)) = true := by simp [e2]
              obtain ⟨a1, a2⟩ := hka (by omega)
              obtain ⟨g3, off3, hq, _, x5⟩ := hxa o5
              simp only [Option.some.injEq, Addr.mk.injEq, true_and, and_true] at hq
              obtain ⟨rfl, rfl⟩ := hq
              have a3 : t.a < (l.length : Int) := by omega
              have HY := Lib.hid (show Ts.stepTo l s i (k + 1) = s.getD t.a.toNat false by rw [HN.out]; simp [Ts.stepB, o5, e2])
              generalize s.getD t.a.toNat false = sa at *
              clear hka hxa o1 o5 e2 a2
              cases sa
              · go_wp2
                go_roundw
                case rel => exact ⟨k + 1, hlt, by go_num, HB.out, HY.out⟩
                case measure => simp [intOf]; omega
              · have HP := Lib.hid (HT.out HY.out)
                go_wp2
                go_ret
                exact ⟨ret_bool' (by rw [HP.out]), HB.out⟩
            · have e2' : (t.b == (i : Int)) = false := by simp [e2]
              have HX := Lib.hid (show Ts.stepTo l s i (k + 1) = false by rw [HN.out]; simp [Ts.stepB, o1, o5, e2])
              clear hka hxa o1 o5 e2
              go_wp2
              go_roundw
              case rel => exact ⟨k + 1, hlt, by go_num, HB.out, HX.out⟩
              case measure => simp [intOf]; omega
          · have o5' : (t.op == 5) = false := by simp [o5]
            have HX := Lib.hid (show Ts.stepTo l s i (k + 1) = false by rw [HN.out]; simp [Ts.stepB, o1, o5])
            clear hka hxa o1 o5
            go_wp2
            go_roundw
            case rel => exact ⟨k + 1, hlt, by go_num, HB.out, HX.out⟩
            case measure => simp [intOf]; omega
    · have HX := Lib.hid (show Ts.rstep l s i = false by rw [HRB.out, ← HA.out, show k = l.length by omega])
      go_wp2
      go_ret
      exact ⟨ret_bool' (by rw [HX.out]), hb⟩

set_option maxRecDepth 100000 in
set_option maxHeartbeats 8000000 in
theorem rstep_four7 (v vs : Value) (l : List Tm) (s : List Bool) (i : Nat) (w : World) (hv : TermsAt w v l) (hs : RowAt w vs (bools s)) (hl : s.length = l.length) (hsh : Ts.Shape l) (hi : i < l.length) (hop : (Ts.tm l i).op = 4) (hia : s.getD (Ts.tm l i).a.toNat false = false) (hib : s.getD (Ts.tm l i).b.toNat false = false) :
    Calls Try.prog 23 #[v, vs, .int .i64 i] w fun r w' => r = .returned (.bool (Ts.rstep l s i)) ∧ Below w.heap.size w w' := by
  have HV := Lib.hid hv
  have HS := Lib.hid hs
  have hfit : Fits l.length (Ts.tm l i) := ⟨hsh.op i hi, fun h => by have := hsh.a i hi h; omega, fun h => by have := hsh.b i hi h; omega⟩
  obtain ⟨A, c, rfl, hc, hm⟩ := RowsAt.form hv
  obtain ⟨B, d, rfl, hd, hm2⟩ := bools_form hs
  obtain ⟨gt, offt, rfl, hgt, t1, t2, t3⟩ := hv.at i hi
  rw [hl] at HS hd hs ⊢
  have HL := Lib.hid hl
  have HSH := Lib.hid hsh
  obtain ⟨gs, offs, rfl, hgs, _⟩ := bools_at hs (k := i) (by rw [HL.out]; exact hi)
  have hrs := Ts.rstep_b (l := l) (s := s) (i := i)
  generalize Ts.tm l i = t at t1 t2 t3 hop hfit hrs hia hib
  have HRB := Lib.hid (hrs (by unfold Ts.stepA; rw [hia, hib]; simp [hop]))
  clear hrs
  obtain ⟨a1, a2⟩ := hfit.a (by omega)
  obtain ⟨b1, b2⟩ := hfit.b (by omega)
  have p2 : (t.op == 2) = false := by simp; omega
  have p3 : (t.op == 3) = false := by simp; omega
  have p1 : (t.op == 1) = false := by simp; omega
  have p4 : (t.op == 4) = true := by simp; omega
  have p5 : decide (4 < t.op) = false := by simp; omega
  have HW0 := Lib.hid ((Below.refl w.heap.size w).alloc (Nat.le_refl _) (.cells #[.int .i64 t.op, .int .i64 t.a, .int .i64 t.b] 61))
  have hba := fun w1 (hb : Below w.heap.size w w1) => bools_at (HS.out.below hb) (k := t.a.toNat) (by rw [HL.out]; omega)
  have hbb := fun w1 (hb : Below w.heap.size w w1) => bools_at (HS.out.below hb) (k := t.b.toNat) (by rw [HL.out]; omega)
  have hkb := fun w1 (hb : Below w.heap.size w w1) => rkey_any _ _ l s t.b w1 (HV.out.below hb) (HS.out.below hb) HL.out
  have hka := fun w1 (hb : Below w.heap.size w w1) => rkey_any _ _ l s t.a w1 (HV.out.below hb) (HS.out.below hb) HL.out
  rw [hia] at hba
  generalize Ts.pub l s t.b = pb at hkb
  rw [hib] at hbb
  generalize Ts.pub l s t.a = pa at hka
  have HBA := Lib.hid hba; have HBB := Lib.hid hbb; have HKA := Lib.hid hka; have HKB := Lib.hid hkb
  have hta : ∀ w1, Below (w.heap.size + 1) (w.alloc (.cells #[.int .i64 t.op, .int .i64 t.a, .int .i64 t.b] 61)) w1 → Below w.heap.size w w1 ∧ w1.cell? ⟨w.heap.size, 1, none⟩ = some (.int .i64 t.a) ∧ w1.cell? ⟨w.heap.size, 2, none⟩ = some (.int .i64 t.b) ∧ w.heap.size + 1 ≤ w1.heap.size := fun w1 hb =>
    ⟨HW0.out.trans (hb.mono (by omega)), (hb.cell (p := ⟨w.heap.size, 1, none⟩) (by simp)).trans (by simp), (hb.cell (p := ⟨w.heap.size, 2, none⟩) (by simp)).trans (by simp), by have := hb.size; simp at this; omega⟩
  have HTA := Lib.hid hta
  have a3 : t.a < (l.length : Int) := by omega
  have b3 : t.b < (l.length : Int) := by omega
  clear hv hs hm2 hl hsh hop hfit a2 b2 hba hbb hka hkb hta hia hib
  go_enter Try.func23, Try.ntmps23
  go_wp2_with fail
  refine (HKB.out _ HW0.out).mono ?_
  rintro e w1 ⟨rfl, hb1⟩
  have HB1 := Lib.hid (show Below (w.heap.size + 1) (w.alloc (.cells #[.int .i64 t.op, .int .i64 t.a, .int .i64 t.b] 61)) w1 from hb1.mono (by simp))
  obtain ⟨q1, q2, q3, q4⟩ := HTA.out _ HB1.out
  have Q1 := Lib.hid q1
  clear hb1 q1
  go_wp2_with fail
  refine (HKA.out _ Q1.out).mono ?_
  rintro e w2 ⟨rfl, hb2⟩
  have HB2 := Lib.hid (HB1.out.trans (hb2.mono q4))
  clear q2 q3 q4 hb2
  obtain ⟨q1, q2, q3, q4⟩ := HTA.out _ HB2.out
  obtain ⟨_, _, hq, _, xa⟩ := HBA.out _ q1
  simp only [Option.some.injEq, Addr.mk.injEq, true_and, and_true] at hq
  obtain ⟨rfl, rfl⟩ := hq
  obtain ⟨_, _, hq, _, xb⟩ := HBB.out _ q1
  simp only [Option.some.injEq, Addr.mk.injEq, true_and, and_true] at hq
  obtain ⟨rfl, rfl⟩ := hq
  clear HW0
  have HW0 := Lib.hid q1
  clear q1
  go_wp2
  go_loopw [6, 10] (fun _ i' wr => ∃ k : Nat, k ≤ l.length ∧ i' = .int .i64 k ∧ Below w.heap.size w wr ∧ Ts.stepTo l s i k = false) (fun _ i' _ => l.length - (intOf i').toNat)
  case atStart => exact ⟨0, Nat.zero_le _, rfl, HW0.out, rfl⟩
  case round =>
    obtain ⟨k, hk, rfl, hb, hall⟩ := hrel
    have HA := Lib.hid hall; clear hall
    have HB := Lib.hid hb
    by_cases hlt : k < l.length
    · obtain ⟨g, off, hq, hg, x1, x2, x3⟩ := (HV.out.below hb).at k hlt
      simp only [Option.some.injEq, Addr.mk.injEq, true_and, and_true] at hq
      obtain ⟨rfl, rfl⟩ := hq
      obtain ⟨_, _, hq, hg2, x4⟩ := bools_at (HS.out.below hb) (k := k) (by rw [HL.out]; exact hlt)
      simp only [Option.some.injEq, Addr.mk.injEq, true_and, and_true] at hq
      obtain ⟨rfl, rfl⟩ := hq
      have HN := Lib.hid (Ts.stepTo_next HA.out)
      have HT := Lib.hid (fun (h : Ts.stepTo l s i (k + 1) = true) => HRB.out.trans (Ts.stepTo_true hlt h))
      have hka := HSH.out.a k hlt
      have hxa := fun (h : (Ts.tm l k).op = 5) => bools_at (HS.out.below hb) (k := (Ts.tm l k).a.toNat) (by rw [HL.out]; have := hka (by omega); omega)
      generalize Ts.tm l k = t at *
      generalize hsk : s.getD k false = sk at *
      clear hsk hb
      cases sk
      · have HX := Lib.hid (show Ts.stepTo l s i (k + 1) = false by rw [HN.out]; simp [Ts.stepB])
        clear hka hxa
        go_wp2
        go_roundw
        case rel => exact ⟨k + 1, hlt, by go_num, HB.out, HX.out⟩
        case measure => simp [intOf]; omega
      · by_cases o1 : t.op = 1
        · have o1' : (t.op == 1) = true := by simp [o1]
          by_cases e1 : t.a = i
          · have e1' : (t.a == (i : Int)) = true := by simp [e1]
            have HP := Lib.hid (HT.out (by rw [HN.out]; simp [Ts.stepB, o1, e1]))
            clear hka hxa o1 e1
            go_wp2
            go_ret
            exact ⟨ret_bool' (by rw [HP.out]), HB.out⟩
          · have e1' : (t.a == (i : Int)) = false := by simp [e1]
            by_cases e2 : t.b = i
            · have e2' : (t.b == (i : Int)) = true := by simp [e2]
              have HP := Lib.hid (HT.out (by rw [HN.out]; simp [Ts.stepB, o1, e2]))
              clear hka hxa o1 e1 e2
              go_wp2
              go_ret
              exact ⟨ret_bool' (by rw [HP.out]), HB.out⟩
            · have e2' : (t.b == (i : Int)) = false := by simp [e2]
              have o5' : (t.op == 5) = false := by simp; omega
              have HX := Lib.hid (show Ts.stepTo l s i (k + 1) = false by rw [HN.out]; simp [Ts.stepB, o1, e1, e2])
              clear hka hxa o1 e1 e2
              go_wp2
              go_roundw
              case rel => exact ⟨k + 1, hlt, by go_num, HB.out, HX.out⟩
              case measure => simp [intOf]; omega
        · have o1' : (t.op == 1) = false := by simp [o1]
          by_cases o5 : t.op = 5
          · have o5' : (t.op == 5) = true := by simp [o5]
            by_cases e2 : t.b = i
            · have e2' : (t.b == (i : Int)) = true := by simp [e2]
              obtain ⟨a1, a2⟩ := hka (by omega)
              obtain ⟨g3, off3, hq, _, x5⟩ := hxa o5
              simp only [Option.some.injEq, Addr.mk.injEq, true_and, and_true] at hq
              obtain ⟨rfl, rfl⟩ := hq
              have a3 : t.a < (l.length : Int) := by omega
              have HY := Lib.hid (show Ts.stepTo l s i (k + 1) = s.getD t.a.toNat false by rw [HN.out]; simp [Ts.stepB, o5, e2])
              generalize s.getD t.a.toNat false = sa at *
              clear hka hxa o1 o5 e2 a2
              cases sa
              · go_wp2
                go_roundw
                case rel => exact ⟨k + 1, hlt, by go_num, HB.out, HY.out⟩
                case measure => simp [intOf]; omega
              · have HP := Lib.hid (HT.out HY.out)
                go_wp2
                go_ret
                exact ⟨ret_bool' (by rw [HP.out]), HB.out⟩
            · have e2' : (t.b == (i : Int)) = false := by simp [e2]
              have HX := Lib.hid (show Ts.stepTo l s i (k + 1) = false by rw [HN.out]; simp [Ts.stepB, o1, o5, e2])
              clear hka hxa o1 o5 e2
              go_wp2
              go_roundw
              case rel => exact ⟨k + 1, hlt, by go_num, HB.out, HX.out⟩
              case measure => simp [intOf]; omega
          · have o5' : (t.op == 5) = false := by simp [o5]
            have HX := Lib.hid (show Ts.stepTo l s i (k + 1) = false by rw [HN.out]; simp [Ts.stepB, o1, o5])
            clear hka hxa o1 o5
            go_wp2
            go_roundw
            case rel => exact ⟨k + 1, hlt, by go_num, HB.out, HX.out⟩
            case measure => simp [intOf]; omega
    · have HX := Lib.hid (show Ts.rstep l s i = false by rw [HRB.out, ← HA.out, show k = l.length by omega])
      go_wp2
      go_ret
      exact ⟨ret_bool' (by rw [HX.out]), hb⟩

theorem rstep_any (v vs : Value) (l : List Tm) (s : List Bool) (i : Nat) (w : World) (hv : TermsAt w v l) (hs : RowAt w vs (bools s)) (hl : s.length = l.length) (hsh : Ts.Shape l) (hi : i < l.length) :
    Calls Try.prog 23 #[v, vs, .int .i64 i] w fun r w' => r = .returned (.bool (Ts.rstep l s i)) ∧ Below w.heap.size w w' := by
  obtain ⟨o1, o2⟩ := hsh.op i hi
  have ho : (Ts.tm l i).op = 0 ∨ (Ts.tm l i).op = 1 ∨ (Ts.tm l i).op = 2 ∨ (Ts.tm l i).op = 3 ∨ (Ts.tm l i).op = 4 ∨ (Ts.tm l i).op > 4 := by omega
  cases hia : s.getD (Ts.tm l i).a.toNat false <;> cases hib : s.getD (Ts.tm l i).b.toNat false <;> rcases ho with h | h | h | h | h | h
  all_goals first
    | exact rstep_zero v vs l s i w hv hs hl hsh hi h
    | exact rstep_two_t v vs l s i w hv hs hl hsh hi h hia
    | exact rstep_two_f v vs l s i w hv hs hl hsh hi h hia
    | exact rstep_three_t v vs l s i w hv hs hl hsh hi h hia
    | exact rstep_three_f v vs l s i w hv hs hl hsh hi h hia
    | exact rstep_one_tt v vs l s i w hv hs hl hsh hi h hia hib
    | exact rstep_one_tf v vs l s i w hv hs hl hsh hi h hia hib
    | exact rstep_one_f v vs l s i w hv hs hl hsh hi h hia
    | exact rstep_five_tt v vs l s i w hv hs hl hsh hi h hia hib
    | exact rstep_five_tf v vs l s i w hv hs hl hsh hi h hia hib
    | exact rstep_five_f v vs l s i w hv hs hl hsh hi h hia
    | (cases hpb : Ts.pub l s (Ts.tm l i).b <;> cases hpa : Ts.pub l s (Ts.tm l i).a <;> first
        | exact rstep_four1 v vs l s i w hv hs hl hsh hi h hia hpb
        | exact rstep_four2 v vs l s i w hv hs hl hsh hi h hia hpb hib hpa
        | exact rstep_four3 v vs l s i w hv hs hl hsh hi h hia hib hpa
        | exact rstep_four4 v vs l s i w hv hs hl hsh hi h hia hpb hib hpa
        | exact rstep_four5 v vs l s i w hv hs hl hsh hi h hia hpb hib
        | exact rstep_four6 v vs l s i w hv hs hl hsh hi h hia hib hpa
        | exact rstep_four7 v vs l s i w hv hs hl hsh hi h hia hib)

end Go.Proofs.Ytffgechbmhgndaa
