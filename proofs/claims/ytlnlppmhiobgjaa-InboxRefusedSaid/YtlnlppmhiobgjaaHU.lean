/- What the rows give: scripts for the inbox, with all that they hold. -/
import Derived.Test.YtlnlppmhiobgjaaHA
import Derived.Test.YtlnlppmhiobgjaaGU
set_option linter.unusedVariables false
set_option linter.unusedSimpArgs false
namespace Go.Proofs.Ytlnlppmhiobgjaa
open Go Go.RowKit Go.ChangeShapes Go.WideShapes Go.Deep
/-- Rows of frames that came in. -/
structure Hv where
  ad : Option Addr
  c : Nat
  hs : List (Nat × Sv)
def hvC (h : Nat × Sv) : List Value := [.int .u32 ((h.1 : Nat) : Int), h.2.v]
abbrev Hv.v (s : Hv) : Value := .slice s.ad s.hs.length s.c
structure Hv.Rd (w : World) (s : Hv) : Prop where
  le : s.hs.length ≤ s.c
  nil : s.ad = none → s.c = 0
  big : s.hs.length ≤ 140737488355328
  at_ : s.hs ≠ [] → ∃ g off, s.ad = some ⟨g, off, none⟩ ∧ RdB w g off (s.hs.flatMap hvC)
  each : ∀ h ∈ s.hs, h.1 < 4294967296 ∧ h.2.Rd w ∧ octs h.2.l
structure Uv where
  ad : Option Addr
  c : Nat
  ss : List Sv
abbrev Uv.v (s : Uv) : Value := .slice s.ad s.ss.length s.c
structure Uv.Rd (w : World) (s : Uv) : Prop where
  le : s.ss.length ≤ s.c
  nil : s.ad = none → s.c = 0
  big : s.ss.length ≤ 140737488355328
  at_ : s.ss ≠ [] → ∃ g off, s.ad = some ⟨g, off, none⟩ ∧ RdB w g off (s.ss.flatMap fun x => [x.v])
  each : ∀ x ∈ s.ss, x.Rd w ∧ octs x.l
structure OpsK (w : World) (la : Option Addr) (c : Nat) (ops : List OpJ) : Prop where
  j : OpsJ w la c ops
  o : ∀ o ∈ ops, octs o.b.l
  h : ∀ o ∈ ops, ∃ h : Hv, o.hv = h.v ∧ h.Rd w
  u : ∀ o ∈ ops, ∃ u : Uv, o.uv = u.v ∧ u.Rd w
theorem flatMap_len {α : Type} {f : α → List Value} {n : Nat} (hf : ∀ a, (f a).length = n) : ∀ l : List α, (l.flatMap f).length = l.length * n
  | [] => by simp
  | a :: l => by rw [List.flatMap_cons, List.length_append, hf, flatMap_len hf l, List.length_cons, Nat.add_mul, Nat.one_mul, Nat.add_comm]
section
variable {H : Type} {enc : TypeId × Value → H} {w : World} {base : Nat} {spare : Nat → Bool} {held : Bool}
theorem rows_of_trod {α : Type} (a0 : α) {t e n bytes : Nat} (ht : Try.prog.underlying t = some (.slice e)) (hn : Try.prog.cellsOf e = n) (hb : Try.prog.bytesOf e = bytes) (hpos : 0 < n) (hpb : 0 < bytes) {cells : α → List Value} (hlen : ∀ a, (cells a).length = n) {Q : α → Prop}
    (hone : ∀ {fuel : Nat} {cs : List Value} {x : DataW H × List MemPlace}, DataW.trod enc Try.prog w base spare held fuel e cs = some x → Small Try.prog e x.1 → ∃ a, cs = cells a ∧ Q a) {fuel : Nat} {v : Value} {d : DataW H} {p : List MemPlace} (h : DataW.trod enc Try.prog w base spare held fuel t [v] = some (d, p)) (hz : Small Try.prog t d) :
    ∃ (ad : Option Addr) (l : List α) (c : Nat), v = .slice ad l.length c ∧ l.length ≤ c ∧ (ad = none → c = 0) ∧ l.length ≤ 140737488355328 ∧ (l ≠ [] → ∃ g off, ad = some ⟨g, off, none⟩ ∧ RdB w g off (l.flatMap cells)) ∧ ∀ a ∈ l, Q a := by
  rcases open_slice ht h with ⟨hcs, _⟩ | ⟨x, len, c, m, k, D, Pl, hcs, _, hl, hm, hmm, hd, hi⟩
  · simp only [List.cons.injEq, and_true] at hcs
    exact ⟨none, [], 0, hcs, Nat.le_refl _, fun _ => rfl, Nat.zero_le _, fun h => absurd rfl h, fun a ha => by cases ha⟩
  · simp only [List.cons.injEq, and_true] at hcs
    have hlm : len ≤ m := by rw [hmm]; split <;> omega
    simp only [Prod.mk.injEq] at hd
    have hel : ∀ i, i < len → ∃ a : α, (∀ j u, (cells a)[j]? = some u → w.cell? (x.add (i * n + j)) = some u) ∧ Q a := by
      intro i hi'
      obtain ⟨cs', hc, ht'⟩ := hi i (by omega)
      obtain ⟨a, rfl, h1⟩ := hone ht' (fun y hy => hz y (by
        rw [hd.1]
        simp only [DataW.weights, ht]
        exact List.mem_cons_of_mem _ (List.mem_append_left _ (mem_all (List.mem_map.2 ⟨i, List.mem_range.2 hi', rfl⟩) y hy))))
      rw [hn] at hc
      obtain ⟨_, _, hcell⟩ := World.cells?_some hc
      refine ⟨a, fun j u hj => ?_, h1⟩
      have hj5 : j < n := by rw [← hlen a]; exact (List.getElem?_eq_some_iff.1 hj).1
      have := hcell j hj5
      rw [add_add] at this
      rw [this]; exact hj
    have hbig : len ≤ 140737488355328 := by
      have h1 := hz ((((List.range len).map D).length + ((List.range (m - len)).map fun j => D (len + j)).length) * Try.prog.bytesOf e) (by rw [hd.1]; simp [DataW.weights, ht])
      rw [hb, List.length_map, List.length_range] at h1
      have h2 : len * 1 ≤ (len + ((List.range (m - len)).map fun j => D (len + j)).length) * bytes := Nat.mul_le_mul (Nat.le_add_right _ _) hpb
      unfold reachBytes at h1
      omega
    let F : Nat → α := fun i => if h : i < len then (hel i h).choose else a0
    have hF : ∀ i, (h : i < len) → (∀ j u, (cells (F i))[j]? = some u → w.cell? (x.add (i * n + j)) = some u) ∧ Q (F i) := by
      intro i h
      have e : F i = (hel i h).choose := by simp [F, h]
      rw [e]
      exact (hel i h).choose_spec
    have hll : ((List.range len).map F).length = len := by simp
    refine ⟨some x, (List.range len).map F, c, by rw [hcs, hll], by rw [hll]; exact hl, (fun h => by cases h), by rw [hll]; exact hbig, fun hne => ?_, fun a ha => ?_⟩
    · have hp0 : 0 < len := by
        rcases Nat.eq_zero_or_pos len with h0 | h0
        · subst h0; exact absurd rfl hne
        · exact h0
      obtain ⟨b, off, spot⟩ := x
      have hj0 : 0 < (cells (F 0)).length := by rw [hlen]; exact hpos
      have h0 := (hF 0 hp0).1 0 _ (List.getElem?_eq_getElem hj0)
      have hspot : spot = none := by simpa [Addr.add] using World.cell?_spot h0
      subst hspot
      refine ⟨b, off, rfl, fun j u hu => ?_⟩
      have hj : j < len * n := by
        have := (List.getElem?_eq_some_iff.1 hu).1
        rwa [flatMap_len hlen, hll] at this
      have hk : j / n < len := Nat.div_lt_of_lt_mul (by rwa [Nat.mul_comm] at hj)
      have hjm : j / n * n + j % n = j := Nat.div_add_mod' j n
      have h1 := flat_at (f := cells) (n := n) hlen (l := (List.range len).map F) (k := j / n) (j := j % n) (a := F (j / n)) (by simp [hk]) (Nat.mod_lt _ hpos)
      rw [hjm, hu] at h1
      have h2 := (hF (j / n) hk).1 (j % n) u h1.symm
      rw [hjm] at h2
      rwa [show (⟨b, off, none⟩ : Addr).add j = ⟨b, off + j, none⟩ from by unfold Addr.add; split <;> simp_all] at h2
    · obtain ⟨i, hi', rfl⟩ := List.mem_map.1 ha
      exact (hF i (List.mem_range.1 hi')).2
theorem sv8_of_trod {fuel : Nat} {v : Value} {d : DataW H} {p : List MemPlace} (h : DataW.trod enc Try.prog w base spare held fuel 30 [v] = some (d, p)) (hz : Small Try.prog 30 d) : ∃ s : Sv, v = s.v ∧ s.Rd w ∧ octs s.l := by
  obtain ⟨ad, l, c, h1, h2, h3, h4, h5, h6⟩ := rows_of_trod (α := Nat) 0 Try.underlying30 c5c b5b (by decide) (by decide) (cells := fun y => [.int .u8 ((y : Nat) : Int)]) (fun _ => rfl) (Q := fun y => y < 256) (fun {fuel cs x} ht _ => by
    obtain ⟨k, e1, _, wf⟩ := DataW.trod_int Try.underlying5 ht
    simp [Lit.wf, IntKind.min, IntKind.max, IntKind.signed, IntKind.bits] at wf
    exact ⟨k.toNat, by rw [e1]; congr 2; omega, by omega⟩) h hz
  refine ⟨⟨ad, c, l⟩, h1, ⟨h2, h3, h4, fun hne => ?_⟩, h6⟩
  obtain ⟨g, off, e1, hr⟩ := h5 hne
  refine ⟨g, off, e1, ?_⟩
  have e : (l.flatMap fun y => [Value.int .u8 ((y : Nat) : Int)]) = oct l := by
    show _ = l.map _
    clear hr h5 h6 h1 h2 h4 hne
    induction l with
    | nil => rfl
    | cons a l ih => rw [List.flatMap_cons, ih]; rfl
  rwa [e] at hr
theorem len2 {α : Type} {l : List α} (h : l.length = 2) : ∃ a b, l = [a, b] := by
  match l, h with
  | [a, b], _ => exact ⟨a, b, rfl⟩
theorem hv_of_trod {fuel : Nat} {v : Value} {d : DataW H} {p : List MemPlace} (h : DataW.trod enc Try.prog w base spare held fuel 31 [v] = some (d, p)) (hz : Small Try.prog 31 d) : ∃ s : Hv, v = s.v ∧ s.Rd w := by
  obtain ⟨ad, l, c, h1, h2, h3, h4, h5, h6⟩ := rows_of_trod (α := Nat × Sv) (0, s0) Try.underlying31 (n := 2) (by kernel_rfl) (bytes := 32) (by kernel_rfl) (by decide) (by decide) (cells := hvC) (fun _ => rfl) (Q := fun h => h.1 < 4294967296 ∧ h.2.Rd w ∧ octs h.2.l) (fun {fuel cs x} ht hz => by
    obtain ⟨xs, m, rfl, hx, hlen, hxl, hf⟩ := DataW.trod_struct Try.underlying60 ht
    rw [show Try.prog.cellsOf 60 = 2 by kernel_rfl] at hlen
    have e0 := hf 0 { name := "Index", type := 29, offset := 0, embedded := false, tag := "", pkgPath := "", byteOffset := 0 } rfl
    have e1 := hf 1 { name := "B", type := 30, offset := 1, embedded := false, tag := "", pkgPath := "", byteOffset := 8 } rfl
    have hx2 : xs.length = 2 := hxl
    obtain ⟨v0, v1, rfl⟩ := len2 hlen
    obtain ⟨y0, y1, rfl⟩ := len2 hx2
    simp only [show Try.prog.cellsOf 29 = 1 by kernel_rfl, show Try.prog.cellsOf 30 = 1 by kernel_rfl, List.drop_zero, List.drop_succ_cons, List.take_succ_cons, List.take_zero, List.getElem?_cons_zero, List.getElem?_cons_succ] at e0 e1
    obtain ⟨b, hb, _, wb⟩ := DataW.trod_int Try.underlying29 e0
    simp only [List.cons.injEq, and_true] at hb
    subst hb
    obtain ⟨s, hs, hr, ho⟩ := sv8_of_trod (d := y1.1) (p := y1.2) e1 (fun n hn => hz n (by
      rw [hx]
      simp only [DataW.weights, Try.underlying60]
      exact DataW.weights_mem_each (j := 1) (t := 30) (d := y1.1) rfl rfl n hn))
    subst hs
    simp [Lit.wf, IntKind.min, IntKind.max, IntKind.signed, IntKind.bits] at wb
    refine ⟨(b.toNat, s), ?_, by show b.toNat < _; omega, hr, ho⟩
    unfold hvC
    rw [show ((b.toNat : Nat) : Int) = b by omega]) h hz
  exact ⟨⟨ad, c, l⟩, h1, ⟨h2, h3, h4, h5, h6⟩⟩
theorem uv_of_trod {fuel : Nat} {v : Value} {d : DataW H} {p : List MemPlace} (h : DataW.trod enc Try.prog w base spare held fuel 26 [v] = some (d, p)) (hz : Small Try.prog 26 d) : ∃ s : Uv, v = s.v ∧ s.Rd w := by
  obtain ⟨ad, l, c, h1, h2, h3, h4, h5, h6⟩ := rows_of_trod (α := Sv) s0 Try.underlying26 (n := 1) (by kernel_rfl) (bytes := 24) (by kernel_rfl) (by decide) (by decide) (cells := fun x => [x.v]) (fun _ => rfl) (Q := fun x => x.Rd w ∧ octs x.l) (fun {fuel cs x} ht hz => by
    obtain ⟨ad, n, c, rfl⟩ := slice_val Try.underlying30 ht
    obtain ⟨s, hs, hr, ho⟩ := sv8_of_trod (d := x.1) (p := x.2) ht hz
    exact ⟨s, by rw [hs], hr, ho⟩) h hz
  exact ⟨⟨ad, c, l⟩, h1, ⟨h2, h3, h4, h5, h6⟩⟩
theorem opk_of_trod {n : Nat} {cs : List Value} {x : DataW H × List MemPlace} (h : DataW.trod enc Try.prog w base spare held n 33 cs = some x) (hz : Small Try.prog 33 x.1) : ∃ op : OpJ, cs = op.cells ∧ (op.b.Rd w ∧ op.nx < 4294967296 ∧ op.ix < 4294967296) ∧ octs op.b.l ∧ (∃ h : Hv, op.hv = h.v ∧ h.Rd w) ∧ ∃ u : Uv, op.uv = u.v ∧ u.Rd w := by
  obtain ⟨xs, m, rfl, hx, hlen, hxl, hf⟩ := DataW.trod_struct Try.underlying33 h
  rw [show Try.prog.cellsOf 33 = 6 by kernel_rfl] at hlen
  have e0 := hf 0 { name := "Do", type := 3, offset := 0, embedded := false, tag := "", pkgPath := "", byteOffset := 0 } rfl
  have e1 := hf 1 { name := "Next", type := 29, offset := 1, embedded := false, tag := "", pkgPath := "", byteOffset := 8 } rfl
  have e2 := hf 2 { name := "Index", type := 29, offset := 2, embedded := false, tag := "", pkgPath := "", byteOffset := 12 } rfl
  have e3 := hf 3 { name := "B", type := 30, offset := 3, embedded := false, tag := "", pkgPath := "", byteOffset := 16 } rfl
  have e4 := hf 4 { name := "H", type := 31, offset := 4, embedded := false, tag := "", pkgPath := "", byteOffset := 40 } rfl
  have e5 := hf 5 { name := "U", type := 26, offset := 5, embedded := false, tag := "", pkgPath := "", byteOffset := 64 } rfl
  have hx6 : xs.length = 6 := hxl
  obtain ⟨v0, v1, v2, v3, v4, v5, rfl⟩ := len6 hlen
  obtain ⟨y0, y1, y2, y3, y4, y5, rfl⟩ := len6 hx6
  simp only [show Try.prog.cellsOf 3 = 1 by kernel_rfl, show Try.prog.cellsOf 29 = 1 by kernel_rfl, show Try.prog.cellsOf 30 = 1 by kernel_rfl, show Try.prog.cellsOf 31 = 1 by kernel_rfl, show Try.prog.cellsOf 26 = 1 by kernel_rfl, List.drop_zero, List.drop_succ_cons, List.take_succ_cons, List.take_zero, List.getElem?_cons_zero, List.getElem?_cons_succ] at e0 e1 e2 e3 e4 e5
  obtain ⟨a, ha, _, _⟩ := DataW.trod_int Try.underlying3 e0
  obtain ⟨b, hb, _, wb⟩ := DataW.trod_int Try.underlying29 e1
  obtain ⟨c, hc, _, wc⟩ := DataW.trod_int Try.underlying29 e2
  simp only [List.cons.injEq, and_true] at ha hb hc
  subst ha hb hc
  obtain ⟨s, hs, hr, ho⟩ := sv8_of_trod (d := y3.1) (p := y3.2) e3 (fun n hn => hz n (by
    rw [hx]
    simp only [DataW.weights, Try.underlying33]
    exact DataW.weights_mem_each (j := 3) (t := 30) (d := y3.1) rfl rfl n hn))
  subst hs
  obtain ⟨hh, h1, h2⟩ := hv_of_trod (d := y4.1) (p := y4.2) e4 (fun n hn => hz n (by
    rw [hx]
    simp only [DataW.weights, Try.underlying33]
    exact DataW.weights_mem_each (j := 4) (t := 31) (d := y4.1) rfl rfl n hn))
  obtain ⟨uu, u1, u2⟩ := uv_of_trod (d := y5.1) (p := y5.2) e5 (fun n hn => hz n (by
    rw [hx]
    simp only [DataW.weights, Try.underlying33]
    exact DataW.weights_mem_each (j := 5) (t := 26) (d := y5.1) rfl rfl n hn))
  simp [Lit.wf, IntKind.min, IntKind.max, IntKind.signed, IntKind.bits] at wb wc
  refine ⟨⟨a, b.toNat, c.toNat, s, v4, v5⟩, ?_, ⟨hr, by show b.toNat < _; omega, by show c.toNat < _; omega⟩, ho, ⟨hh, h1, h2⟩, uu, u1, u2⟩
  unfold OpJ.cells
  rw [show ((b.toNat : Nat) : Int) = b by omega, show ((c.toNat : Nat) : Int) = c by omega]
theorem opsk_of_trod {a : Option Addr} {len cap : Nat} {d : DataW H} {p : List MemPlace} (h : DataW.Trod enc Try.prog w base spare held 22 (.slice a len cap) d p) (hz : Small Try.prog 22 d) : ∃ ops : List OpJ, ops.length = len ∧ OpsK w a cap ops := by
  obtain ⟨fuel, hf⟩ := h
  obtain ⟨ad, l, c, h1, h2, h3, h4, h5, h6⟩ := rows_of_trod (α := OpJ) ⟨0, 0, 0, s0, .slice none 0 0, .slice none 0 0⟩ Try.underlying22 (n := 6) (by kernel_rfl) (bytes := 88) (by kernel_rfl) (by decide) (by decide) (cells := OpJ.cells) (fun _ => rfl) (fun ht hz => opk_of_trod ht hz) hf hz
  simp only [Value.slice.injEq] at h1
  obtain ⟨rfl, rfl, rfl⟩ := h1
  exact ⟨l, rfl, ⟨h2, h5, fun o ho => (h6 o ho).1⟩, fun o ho => (h6 o ho).2.1, fun o ho => (h6 o ho).2.2.1, fun o ho => (h6 o ho).2.2.2⟩
theorem opst_of_trod {a : Option Addr} {len cap : Nat} {d : DataW H} {p : List MemPlace} (h : DataW.Trod enc Try.prog w base spare held 22 (.slice a len cap) d p) (hz : Small Try.prog 22 d) : ∃ ops : List OpJ, ops.length = len ∧ OpsT w a cap ops := by
  obtain ⟨ops, h1, h2⟩ := opsk_of_trod h hz
  exact ⟨ops, h1, h2.j, h2.o⟩
end
end Go.Proofs.Ytlnlppmhiobgjaa
