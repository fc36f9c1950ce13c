/- What the rows give: scripts for the inbox. -/
import Derived.Test.YtlnlppmhiobgjaaGT
import Derived.Test.YtlnlppmhiobgjaaGR
set_option linter.unusedVariables false
set_option linter.unusedSimpArgs false
namespace Go.Proofs.Ytlnlppmhiobgjaa
open Go Go.RowKit Go.ChangeShapes Go.WideShapes Go.Deep
section
variable {H : Type} {enc : TypeId × Value → H} {w : World} {base : Nat} {spare : Nat → Bool} {held : Bool}
theorem len6 {α : Type} {l : List α} (h : l.length = 6) : ∃ a b c d e f, l = [a, b, c, d, e, f] := by
  match l, h with
  | [a, b, c, d, e, f], _ => exact ⟨a, b, c, d, e, f, rfl⟩
theorem opj_of_trod {n : Nat} {cs : List Value} {x : DataW H × List MemPlace} (h : DataW.trod enc Try.prog w base spare held n 33 cs = some x) (hz : Small Try.prog 33 x.1) : ∃ op : OpJ, cs = op.cells ∧ op.b.Rd w ∧ op.nx < 4294967296 ∧ op.ix < 4294967296 := by
  obtain ⟨xs, m, rfl, hx, hlen, hxl, hf⟩ := DataW.trod_struct Try.underlying33 h
  rw [show Try.prog.cellsOf 33 = 6 by kernel_rfl] at hlen
  have e0 := hf 0 { name := "Do", type := 3, offset := 0, embedded := false, tag := "", pkgPath := "", byteOffset := 0 } rfl
  have e1 := hf 1 { name := "Next", type := 29, offset := 1, embedded := false, tag := "", pkgPath := "", byteOffset := 8 } rfl
  have e2 := hf 2 { name := "Index", type := 29, offset := 2, embedded := false, tag := "", pkgPath := "", byteOffset := 12 } rfl
  have e3 := hf 3 { name := "B", type := 30, offset := 3, embedded := false, tag := "", pkgPath := "", byteOffset := 16 } rfl
  have e4 := hf 4 { name := "H", type := 31, offset := 4, embedded := false, tag := "", pkgPath := "", byteOffset := 40 } rfl
  have e5 := hf 5 { name := "U", type := 26, offset := 5, embedded := false, tag := "", pkgPath := "", byteOffset := 64 } rfl
  have hx6 : xs.length = 6 := hxl
  obtain ⟨v0, v1, v2, v3, v4, v5, rfl⟩ := len6 hlen
  obtain ⟨y0, y1, y2, y3, y4, y5, rfl⟩ := len6 hx6
  simp only [show Try.prog.cellsOf 3 = 1 by kernel_rfl, show Try.prog.cellsOf 29 = 1 by kernel_rfl, show Try.prog.cellsOf 30 = 1 by kernel_rfl, show Try.prog.cellsOf 31 = 1 by kernel_rfl, show Try.prog.cellsOf 26 = 1 by kernel_rfl, List.drop_zero, List.drop_succ_cons, List.take_succ_cons, List.take_zero, List.getElem?_cons_zero, List.getElem?_cons_succ] at e0 e1 e2 e3 e4 e5
  obtain ⟨a, ha, _, _⟩ := DataW.trod_int Try.underlying3 e0
  obtain ⟨b, hb, _, wb⟩ := DataW.trod_int Try.underlying29 e1
  obtain ⟨c, hc, _, wc⟩ := DataW.trod_int Try.underlying29 e2
  simp only [List.cons.injEq, and_true] at ha hb hc
  subst ha hb hc
  obtain ⟨s, hs, hr⟩ := sv_of_trod (d := y3.1) (p := y3.2) e3 (fun n hn => hz n (by
    rw [hx]
    simp only [DataW.weights, Try.underlying33]
    exact DataW.weights_mem_each (j := 3) (t := 30) (d := y3.1) rfl rfl n hn))
  subst hs
  simp [Lit.wf, IntKind.min, IntKind.max, IntKind.signed, IntKind.bits] at wb wc
  refine ⟨⟨a, b.toNat, c.toNat, s, v4, v5⟩, ?_, hr, by show b.toNat < _; omega, by show c.toNat < _; omega⟩
  unfold OpJ.cells
  rw [show ((b.toNat : Nat) : Int) = b by omega, show ((c.toNat : Nat) : Int) = c by omega]
theorem opsj_of_trod {a : Option Addr} {len cap : Nat} {d : DataW H} {p : List MemPlace} (h : DataW.Trod enc Try.prog w base spare held 22 (.slice a len cap) d p) (hz : Small Try.prog 22 d) : ∃ ops : List OpJ, ops.length = len ∧ OpsJ w a cap ops := by
  obtain ⟨fuel, hf⟩ := h
  rcases open_slice Try.underlying22 hf with ⟨hcs, _⟩ | ⟨x, l, c, m, n, D, Pl, hcs, _, hl, hm, hmm, hd, hi⟩
  · simp [Value.cells] at hcs
    obtain ⟨rfl, rfl, rfl⟩ := hcs
    exact ⟨[], rfl, ⟨Nat.le_refl _, fun h => absurd rfl h, fun o ho => by cases ho⟩⟩
  · simp [Value.cells] at hcs
    obtain ⟨rfl, rfl, rfl⟩ := hcs
    have hlm : len ≤ m := by rw [hmm]; split <;> omega
    simp only [Prod.mk.injEq] at hd
    have hel : ∀ i, i < len → ∃ op : OpJ, (∀ j u, op.cells[j]? = some u → w.cell? (x.add (i * 6 + j)) = some u) ∧ op.b.Rd w ∧ op.nx < 4294967296 ∧ op.ix < 4294967296 := by
      intro i hi'
      obtain ⟨cs', hc, ht⟩ := hi i (by omega)
      obtain ⟨op, rfl, h1⟩ := opj_of_trod ht (fun n hn => hz n (by
        rw [hd.1]
        simp only [DataW.weights, Try.underlying22]
        exact List.mem_cons_of_mem _ (List.mem_append_left _ (mem_all (List.mem_map.2 ⟨i, List.mem_range.2 hi', rfl⟩) n hn))))
      rw [show Try.prog.cellsOf 33 = 6 by kernel_rfl] at hc
      obtain ⟨_, _, hcell⟩ := World.cells?_some hc
      refine ⟨op, fun j u hj => ?_, h1⟩
      have hj6 : j < 6 := (List.getElem?_eq_some_iff.1 hj).1
      have := hcell j hj6
      rw [add_add] at this
      rw [this]; exact hj
    let F : Nat → OpJ := fun i => if h : i < len then (hel i h).choose else ⟨0, 0, 0, s0, .slice none 0 0, .slice none 0 0⟩
    have hF : ∀ i, (h : i < len) → (∀ j u, (F i).cells[j]? = some u → w.cell? (x.add (i * 6 + j)) = some u) ∧ (F i).b.Rd w ∧ (F i).nx < 4294967296 ∧ (F i).ix < 4294967296 := by
      intro i h
      have e : F i = (hel i h).choose := by simp [F, h]
      rw [e]
      exact (hel i h).choose_spec
    refine ⟨(List.range len).map F, by simp, ⟨by simpa using hl, fun hne => ?_, fun o ho => ?_⟩⟩
    · have hpos : 0 < len := by
        rcases Nat.eq_zero_or_pos len with h0 | h0
        · subst h0; exact absurd rfl hne
        · exact h0
      obtain ⟨b, off, spot⟩ := x
      have h0 := (hF 0 hpos).1 0 (.int .i64 (F 0).do_) rfl
      have hspot : spot = none := by simpa [Addr.add] using World.cell?_spot h0
      subst hspot
      refine ⟨b, off, rfl, fun j u hu => ?_⟩
      have hj : j < len * 6 := by
        have := (List.getElem?_eq_some_iff.1 hu).1
        have e : (((List.range len).map F).flatMap OpJ.cells).length = len * 6 := by
          rw [List.length_flatMap, List.map_map]
          have : ∀ k, (List.map (List.length ∘ OpJ.cells ∘ F) (List.range k)).sum = k * 6 := by
            intro k
            induction k with
            | zero => rfl
            | succ k ih => rw [List.range_succ, List.map_append, List.sum_append, ih]; show k * 6 + (6 + 0) = _; omega
          have h2 := this len
          simpa [Function.comp_def] using h2
        omega
      have hk : j / 6 < len := by omega
      have h1 := flat_at (f := OpJ.cells) (n := 6) (fun _ => rfl) (l := (List.range len).map F) (k := j / 6) (j := j % 6) (a := F (j / 6)) (by simp [hk]) (Nat.mod_lt _ (by decide))
      rw [show j / 6 * 6 + j % 6 = j by omega, hu] at h1
      have h2 := (hF (j / 6) hk).1 (j % 6) u h1.symm
      rw [show j / 6 * 6 + j % 6 = j by omega] at h2
      rwa [show (⟨b, off, none⟩ : Addr).add j = ⟨b, off + j, none⟩ from by unfold Addr.add; split <;> simp_all] at h2
    · obtain ⟨i, hi', rfl⟩ := List.mem_map.1 ho
      exact (hF i (List.mem_range.1 hi')).2
end
end Go.Proofs.Ytlnlppmhiobgjaa
