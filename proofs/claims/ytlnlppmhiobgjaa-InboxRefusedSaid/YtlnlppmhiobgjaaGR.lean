/- What the rows give: scripts for the outbox. -/
import Derived.Test.YtlnlppmhiobgjaaGK
import Derived.SizedLaws
import Derived.Deep.Slices
import Derived.Deep.Fields
import Derived.WalkKit
import Derived.ProofKit
set_option linter.unusedVariables false
set_option linter.unusedSimpArgs false
namespace Go.Proofs.Ytlnlppmhiobgjaa
open Go Go.RowKit Go.ChangeShapes Go.WideShapes Go.Deep
theorem c5c : Try.prog.cellsOf 5 = 1 := by kernel_rfl
theorem b5b : Try.prog.bytesOf 5 = 1 := by kernel_rfl
theorem mem_all {H : Type} {P : Program} {e : TypeId} : ∀ {l : List (DataW H)} {d : DataW H}, d ∈ l → ∀ n ∈ d.weights P e, n ∈ DataW.weightsAll P e l
  | d0 :: l, d, hd, n, hn => by
    simp only [DataW.weightsAll, List.mem_append]
    rcases List.mem_cons.1 hd with rfl | hd
    · exact .inl hn
    · exact .inr (mem_all hd n hn)
def Small {H : Type} (P : Program) (t : TypeId) (d : DataW H) : Prop := ∀ n ∈ d.weights P t, n ≤ reachBytes
section
variable {H : Type} {enc : TypeId × Value → H} {w : World} {base : Nat} {spare : Nat → Bool} {held : Bool}
theorem slice_val {t e : TypeId} (ht : Try.prog.underlying t = some (.slice e)) {fuel : Nat} {cs : List Value} {x : DataW H × List MemPlace} (h : DataW.trod enc Try.prog w base spare held fuel t cs = some x) : ∃ ad n c, cs = [.slice ad n c] := by
  rcases open_slice ht h with ⟨hcs, _⟩ | ⟨x', l', c', _, _, _, _, hcs, _⟩
  · exact ⟨none, 0, 0, hcs⟩
  · exact ⟨some x', l', c', hcs⟩
theorem sv_of_trod {fuel : Nat} {v : Value} {d : DataW H} {p : List MemPlace} (h : DataW.trod enc Try.prog w base spare held fuel 30 [v] = some (d, p)) (hz : Small Try.prog 30 d) : ∃ s : Sv, v = s.v ∧ s.Rd w := by
  rcases open_slice Try.underlying30 h with ⟨hcs, _⟩ | ⟨x, len, c, m, n, D, Pl, hcs, _, hl, hm, hmm, hd, hi⟩
  · simp only [List.cons.injEq, and_true] at hcs
    exact ⟨⟨none, 0, []⟩, hcs, ⟨Nat.le_refl _, fun _ => rfl, Nat.zero_le _, fun h => absurd rfl h⟩⟩
  · simp only [List.cons.injEq, and_true] at hcs
    have hlm : len ≤ m := by rw [hmm]; split <;> omega
    have hel : ∀ i, i < len → ∃ f : Nat, w.cell? (x.add i) = some (.int .u8 ((f : Nat) : Int)) := by
      intro i hi'
      obtain ⟨cs', hc, ht⟩ := hi i (by omega)
      rw [c5c] at hc
      obtain ⟨_, hcl, hcell⟩ := World.cells?_some hc
      obtain ⟨k, e1, _, wf⟩ := DataW.trod_int Try.underlying5 ht
      have h0 := hcell 0 (by omega)
      rw [add_add, Nat.mul_one, Nat.add_zero] at h0
      have e2 : cs'[0]? = some (.int .u8 k) := by rw [e1]; rfl
      simp [Lit.wf, IntKind.min, IntKind.max, IntKind.signed, IntKind.bits] at wf
      exact ⟨k.toNat, by rw [h0, e2]; congr 2; omega⟩
    obtain ⟨l, hll, hlc⟩ : ∃ l : List Nat, l.length = len ∧ ∀ j u, (oct l)[j]? = some u → w.cell? (x.add j) = some u := by
      refine ⟨(List.range len).map fun i => if h : i < len then (hel i h).choose else 0, by simp, fun j u hj => ?_⟩
      replace hj : (((List.range len).map fun i => if h : i < len then (hel i h).choose else 0).map fun (n : Nat) => Value.int .u8 (n : Int))[j]? = some u := hj
      rw [List.getElem?_map, List.getElem?_map] at hj
      rcases Nat.lt_or_ge j len with hj2 | hj2
      · rw [List.getElem?_range hj2] at hj
        simp only [Option.map_some, hj2, dif_pos, Option.some.injEq] at hj
        rw [← hj]
        exact (hel j hj2).choose_spec
      · rw [List.getElem?_eq_none (by simp; omega)] at hj
        cases hj
    have hbig : len ≤ 140737488355328 := by
      simp only [Prod.mk.injEq] at hd
      have h1 := hz ((((List.range len).map D).length + ((List.range (m - len)).map fun j => D (len + j)).length) * Try.prog.bytesOf 5) (by rw [hd.1]; simp [DataW.weights, Try.underlying30])
      rw [b5b, Nat.mul_one, List.length_map, List.length_range] at h1
      unfold reachBytes at h1
      omega
    refine ⟨⟨some x, c, l⟩, by rw [hcs, Sv.v, hll], ⟨by rw [hll]; exact hl, (fun h => by cases h), by rw [hll]; exact hbig, fun hne => ?_⟩⟩
    obtain ⟨b, off, spot⟩ := x
    have hpos : 0 < l.length := List.length_pos_iff.2 hne
    have h0 := hlc 0 _ (oct_at hpos)
    have hspot : spot = none := by simpa [Addr.add] using World.cell?_spot h0
    subst hspot
    refine ⟨b, off, rfl, fun j u hj => ?_⟩
    have := hlc j u hj
    rwa [show (⟨b, off, none⟩ : Addr).add j = ⟨b, off + j, none⟩ from by unfold Addr.add; split <;> simp_all] at this
theorem len5 {α : Type} {l : List α} (h : l.length = 5) : ∃ a b c d e, l = [a, b, c, d, e] := by
  match l, h with
  | [a, b, c, d, e], _ => exact ⟨a, b, c, d, e, rfl⟩
theorem op_of_trod {n : Nat} {cs : List Value} {x : DataW H × List MemPlace} (h : DataW.trod enc Try.prog w base spare held n 50 cs = some x) (hz : Small Try.prog 50 x.1) : ∃ op : OpI, cs = op.cells ∧ op.b.Rd w ∧ op.ix < 4294967296 ∧ op.lv.oneCell' = true := by
  obtain ⟨xs, m, rfl, hx, hlen, hxl, hf⟩ := DataW.trod_struct Try.underlying50 h
  rw [show Try.prog.cellsOf 50 = 5 by kernel_rfl] at hlen
  have e0 := hf 0 { name := "Do", type := 3, offset := 0, embedded := false, tag := "", pkgPath := "", byteOffset := 0 } rfl
  have e1 := hf 1 { name := "Index", type := 29, offset := 1, embedded := false, tag := "", pkgPath := "", byteOffset := 8 } rfl
  have e2 := hf 2 { name := "Now", type := 48, offset := 2, embedded := false, tag := "", pkgPath := "", byteOffset := 16 } rfl
  have e3 := hf 3 { name := "B", type := 30, offset := 3, embedded := false, tag := "", pkgPath := "", byteOffset := 24 } rfl
  have e4 := hf 4 { name := "L", type := 45, offset := 4, embedded := false, tag := "", pkgPath := "", byteOffset := 48 } rfl
  have hx5 : xs.length = 5 := hxl
  obtain ⟨v0, v1, v2, v3, v4, rfl⟩ := len5 hlen
  obtain ⟨y0, y1, y2, y3, y4, rfl⟩ := len5 hx5
  simp only [show Try.prog.cellsOf 3 = 1 by kernel_rfl, show Try.prog.cellsOf 29 = 1 by kernel_rfl, show Try.prog.cellsOf 48 = 1 by kernel_rfl, show Try.prog.cellsOf 30 = 1 by kernel_rfl, show Try.prog.cellsOf 45 = 1 by kernel_rfl, List.drop_zero, List.drop_succ_cons, List.take_succ_cons, List.take_zero, List.getElem?_cons_zero, List.getElem?_cons_succ] at e0 e1 e2 e3 e4
  obtain ⟨a, ha, _, _⟩ := DataW.trod_int Try.underlying3 e0
  obtain ⟨b, hb, _, wb⟩ := DataW.trod_int Try.underlying29 e1
  obtain ⟨c, hc, _, wc⟩ := DataW.trod_int Try.underlying48 e2
  obtain ⟨ad, k, cc, h4⟩ := slice_val Try.underlying45 e4
  simp only [List.cons.injEq, and_true] at ha hb hc h4
  subst ha hb hc h4
  obtain ⟨s, hs, hr⟩ := sv_of_trod (d := y3.1) (p := y3.2) e3 (fun n hn => hz n (by
    rw [hx]
    simp only [DataW.weights, Try.underlying50]
    exact DataW.weights_mem_each (j := 3) (t := 30) (d := y3.1) rfl rfl n hn))
  subst hs
  simp [Lit.wf, IntKind.min, IntKind.max, IntKind.signed, IntKind.bits] at wb wc
  refine ⟨⟨a, b.toNat, c.toNat, s, .slice ad k cc⟩, ?_, hr, by show b.toNat < _; omega, rfl⟩
  unfold OpI.cells OpI.arr
  rw [show ((b.toNat : Nat) : Int) = b by omega, show ((c.toNat : Nat) : Int) = c by omega]
theorem ops_of_trod {a : Option Addr} {len cap : Nat} {d : DataW H} {p : List MemPlace} (h : DataW.Trod enc Try.prog w base spare held 43 (.slice a len cap) d p) (hz : Small Try.prog 43 d) : ∃ ops : List OpI, ops.length = len ∧ OpsR w a cap ops := by
  obtain ⟨fuel, hf⟩ := h
  rcases open_slice Try.underlying43 hf with ⟨hcs, _⟩ | ⟨x, l, c, m, n, D, Pl, hcs, _, hl, hm, hmm, hd, hi⟩
  · simp [Value.cells] at hcs
    obtain ⟨rfl, rfl, rfl⟩ := hcs
    exact ⟨[], rfl, ⟨Nat.le_refl _, fun h => absurd rfl h, fun o ho => by cases ho⟩⟩
  · simp [Value.cells] at hcs
    obtain ⟨rfl, rfl, rfl⟩ := hcs
    have hlm : len ≤ m := by rw [hmm]; split <;> omega
    simp only [Prod.mk.injEq] at hd
    have hel : ∀ i, i < len → ∃ op : OpI, (∀ j u, op.cells[j]? = some u → w.cell? (x.add (i * 5 + j)) = some u) ∧ op.b.Rd w ∧ op.ix < 4294967296 ∧ op.lv.oneCell' = true := by
      intro i hi'
      obtain ⟨cs', hc, ht⟩ := hi i (by omega)
      obtain ⟨op, rfl, h1⟩ := op_of_trod ht (fun n hn => hz n (by
        rw [hd.1]
        simp only [DataW.weights, Try.underlying43]
        exact List.mem_cons_of_mem _ (List.mem_append_left _ (mem_all (List.mem_map.2 ⟨i, List.mem_range.2 hi', rfl⟩) n hn))))
      rw [show Try.prog.cellsOf 50 = 5 by kernel_rfl] at hc
      obtain ⟨_, _, hcell⟩ := World.cells?_some hc
      refine ⟨op, fun j u hj => ?_, h1⟩
      have hj5 : j < 5 := (List.getElem?_eq_some_iff.1 hj).1
      have := hcell j hj5
      rw [add_add] at this
      rw [this]; exact hj
    let F : Nat → OpI := fun i => if h : i < len then (hel i h).choose else ⟨0, 0, 0, s0, .slice none 0 0⟩
    have hF : ∀ i, (h : i < len) → (∀ j u, (F i).cells[j]? = some u → w.cell? (x.add (i * 5 + j)) = some u) ∧ (F i).b.Rd w ∧ (F i).ix < 4294967296 ∧ (F i).lv.oneCell' = true := by
      intro i h
      have e : F i = (hel i h).choose := by simp [F, h]
      rw [e]
      exact (hel i h).choose_spec
    refine ⟨(List.range len).map F, by simp, ⟨by simpa using hl, fun hne => ?_, fun o ho => ?_⟩⟩
    · have hpos : 0 < len := by
        rcases Nat.eq_zero_or_pos len with h0 | h0
        · subst h0; exact absurd rfl hne
        · exact h0
      obtain ⟨b, off, spot⟩ := x
      have h0 := (hF 0 hpos).1 0 (.int .i64 (F 0).do_) rfl
      have hspot : spot = none := by simpa [Addr.add] using World.cell?_spot h0
      subst hspot
      refine ⟨b, off, rfl, fun j u hu => ?_⟩
      have hj : j < len * 5 := by
        have := (List.getElem?_eq_some_iff.1 hu).1
        have e : (((List.range len).map F).flatMap OpI.cells).length = len * 5 := by
          rw [List.length_flatMap, List.map_map]
          have : ∀ k, (List.map (List.length ∘ OpI.cells ∘ F) (List.range k)).sum = k * 5 := by
            intro k
            induction k with
            | zero => rfl
            | succ k ih => rw [List.range_succ, List.map_append, List.sum_append, ih]; show k * 5 + (5 + 0) = _; omega
          have h2 := this len
          simpa [Function.comp_def] using h2
        omega
      have hk : j / 5 < len := by omega
      have h1 := flat_at (f := OpI.cells) (n := 5) (fun _ => rfl) (l := (List.range len).map F) (k := j / 5) (j := j % 5) (a := F (j / 5)) (by simp [hk]) (Nat.mod_lt _ (by decide))
      rw [show j / 5 * 5 + j % 5 = j by omega, hu] at h1
      have h2 := (hF (j / 5) hk).1 (j % 5) u h1.symm
      rw [show j / 5 * 5 + j % 5 = j by omega] at h2
      rwa [show (⟨b, off, none⟩ : Addr).add j = ⟨b, off + j, none⟩ from by unfold Addr.add; split <;> simp_all] at h2
    · obtain ⟨i, hi', rfl⟩ := List.mem_map.1 ho
      exact (hF i (List.mem_range.1 hi')).2
end
end Go.Proofs.Ytlnlppmhiobgjaa
