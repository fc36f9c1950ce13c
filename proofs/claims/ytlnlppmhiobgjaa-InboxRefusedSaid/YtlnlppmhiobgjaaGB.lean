/- Octets that are read, cloned, kept in entries: what they are as values and blocks. -/
import Derived.Test.YtlnlppmhiobgjaaGA
import Derived.Test.YtlnlppmhiobgjaaChecked
set_option linter.unusedVariables false
set_option linter.unusedSimpArgs false
namespace Go.Proofs.Ytlnlppmhiobgjaa
open Go Go.RowKit
/-- A slice of octets that may be read. -/
structure Sv where
  ad : Option Addr
  c : Nat
  l : List Nat
abbrev Sv.v (s : Sv) : Value := .slice s.ad s.l.length s.c
structure Sv.Rd (w : World) (s : Sv) : Prop where
  le : s.l.length ≤ s.c
  nil : s.ad = none → s.c = 0
  big : s.l.length ≤ 140737488355328
  at_ : s.l ≠ [] → ∃ g off, s.ad = some ⟨g, off, none⟩ ∧ RdB w g off (oct s.l)
theorem Sv.Rd.kept {w w' : World} {s : Sv} (h : s.Rd w) (k : Kept [] w w') : s.Rd w' :=
  ⟨h.le, h.nil, h.big, fun hl => let ⟨g, off, h1, h2⟩ := h.at_ hl; ⟨g, off, h1, h2.kept k List.not_mem_nil⟩⟩
theorem Sv.Rd.empty {w : World} {s : Sv} (h : s.Rd w) (hn : s.ad = none) : s.l = [] := by
  by_cases hl : s.l = []
  · exact hl
  · obtain ⟨g, off, h1, _⟩ := h.at_ hl
    rw [hn] at h1; cases h1
theorem Sv.Rd.rds {w : World} {s : Sv} (h : s.Rd w) {q : Addr} (hq : s.ad = some q) : RdS w (.slice (some q) s.l.length s.c) s.l.length (oct s.l) := by
  by_cases hl : s.l = []
  · exact .inr ⟨q, s.c, rfl, h.le, fun j u hj => by rw [hl] at hj; simp [ints] at hj⟩
  · obtain ⟨g, off, h1, h2⟩ := h.at_ hl
    rw [hq] at h1
    injection h1 with h1
    rw [h1]
    exact h2.rd h.le
/-- A slice of such slices. -/
structure Lv where
  ad : Option Addr
  c : Nat
  ss : List Sv
abbrev Lv.v (s : Lv) : Value := .slice s.ad s.ss.length s.c
structure Lv.Rd (w : World) (s : Lv) : Prop where
  le : s.ss.length ≤ s.c
  big : s.ss.length < 1000000
  at_ : s.ss ≠ [] → ∃ g off, s.ad = some ⟨g, off, none⟩ ∧ RdB w g off (s.ss.map Sv.v)
  each : ∀ x ∈ s.ss, x.Rd w
theorem Lv.Rd.kept {w w' : World} {s : Lv} (h : s.Rd w) (k : Kept [] w w') : s.Rd w' :=
  ⟨h.le, h.big, fun hl => let ⟨g, off, h1, h2⟩ := h.at_ hl; ⟨g, off, h1, h2.kept k List.not_mem_nil⟩, fun x hx => (h.each x hx).kept k⟩
/-- What a clone is. -/
structure Cl where
  nl : Bool
  g : Nat
  cap : Nat
  rest : List Value
  l : List Nat
def Cl.v (c : Cl) : Value := match c.nl with | true => .slice none 0 0 | false => .slice (some ⟨c.g, 0, none⟩) c.l.length c.cap
def Cl.blks (c : Cl) : List Blk := match c.nl with | true => [] | false => [⟨true, c.g, .cells (sl (oct c.l) c.rest) 5 (0, 0)⟩]
structure Cl.ok (c : Cl) : Prop where
  big : c.l.length ≤ 140737488355328
  nil : c.nl = true → c.l = []
  own : c.nl = false → Own (oct c.l) c.rest c.l.length c.cap 1
def Cl.sv (c : Cl) : Sv := match c.nl with | true => ⟨none, 0, c.l⟩ | false => ⟨some ⟨c.g, 0, none⟩, c.cap, c.l⟩
theorem Cl.sv_l (c : Cl) : c.sv.l = c.l := by unfold Cl.sv; split <;> rfl
theorem Cl.sv_v {c : Cl} (h : c.ok) : c.sv.v = c.v := by
  obtain ⟨nl, g, cap, rest, l⟩ := c
  cases nl with
  | true => have := h.nil rfl; subst this; rfl
  | false => rfl
theorem Cl.one (c : Cl) : c.v.oneCell' = true := by
  obtain ⟨nl, g, cap, rest, l⟩ := c
  cases nl <;> rfl
def HeldB (L : List Blk) (w : World) : Prop := ∀ p ∈ L, w.heap[p.ad]? = some p.ob
theorem Cl.rd {c : Cl} {w : World} (h : c.ok) (hb : HeldB c.blks w) : c.sv.Rd w := by
  obtain ⟨nl, g, cap, rest, l⟩ := c
  cases nl with
  | true =>
    have hl : l = [] := h.nil rfl
    subst hl
    exact ⟨Nat.le_refl _, fun _ => rfl, Nat.zero_le _, fun hl => absurd rfl hl⟩
  | false =>
    have hg := hb _ (List.mem_singleton.2 rfl)
    exact ⟨(h.own rfl).le, (fun e => by cases e), h.big, fun _ => ⟨g, 0, rfl, RdB.all hg⟩⟩
def Sv.RdK (X : List Nat) (w : World) (s : Sv) : Prop := ∀ w', Kept X w w' → s.Rd w'
theorem Cl.rdK {c : Cl} {X : List Nat} {w : World} (h : c.ok) (hb : HeldB c.blks w) (hx : ∀ p ∈ c.blks, p.ad ∉ X) : c.sv.RdK X w := fun w' k =>
  c.rd h fun p hp => by rw [k.block _ (heap_in (hb p hp)) (hx p hp)]; exact hb p hp
theorem Cl.blks_own (c : Cl) : ∀ p ∈ c.blks, p.own = true := by
  obtain ⟨nl, g, cap, rest, l⟩ := c
  cases nl with
  | true => intro p hp; cases hp
  | false => intro p hp; rw [List.mem_singleton.1 hp]
/-- A list that a call has made: of clones. -/
structure Ls where
  nl : Bool
  g : Nat
  cap : Nat
  rest : List Value
  cs : List Cl
def Ls.v (o : Ls) : Value := match o.nl with | true => .slice none 0 0 | false => .slice (some ⟨o.g, 0, none⟩) o.cs.length o.cap
def clB (cs : List Cl) : List Blk := cs.flatMap Cl.blks
def Ls.blks (o : Ls) : List Blk := match o.nl with | true => [] | false => ⟨true, o.g, .cells (sl (o.cs.map Cl.v) o.rest) 30 (0, 0)⟩ :: clB o.cs
structure Ls.ok (o : Ls) : Prop where
  nil : o.nl = true → o.cs = []
  own : o.nl = false → Own (o.cs.map Cl.v) o.rest o.cs.length o.cap 1
  each : ∀ c ∈ o.cs, c.ok
def Ls.lv (o : Ls) : Lv := match o.nl with | true => ⟨none, 0, o.cs.map Cl.sv⟩ | false => ⟨some ⟨o.g, 0, none⟩, o.cap, o.cs.map Cl.sv⟩
def Ls.ls (o : Ls) : List (List Nat) := o.cs.map (·.l)
theorem Ls.lv_ls (o : Ls) : o.lv.ss.map (·.l) = o.ls := by
  unfold Ls.lv Ls.ls
  split <;> simp [Function.comp_def, Cl.sv_l]
theorem map_sv {cs : List Cl} (h : ∀ c ∈ cs, c.ok) : (cs.map Cl.sv).map Sv.v = cs.map Cl.v := by
  rw [List.map_map]
  exact List.map_congr_left fun c hc => Cl.sv_v (h c hc)
theorem Ls.lv_v {o : Ls} (h : o.ok) : o.lv.v = o.v := by
  obtain ⟨nl, g, cap, rest, cs⟩ := o
  cases nl with
  | true => have := h.nil rfl; subst this; rfl
  | false => show Value.slice _ (cs.map Cl.sv).length _ = Value.slice _ cs.length _; rw [List.length_map]; rfl
theorem mem_clB {cs : List Cl} {c : Cl} (h : c ∈ cs) {p : Blk} (hp : p ∈ c.blks) : p ∈ clB cs := List.mem_flatMap.2 ⟨c, h, hp⟩
theorem Ls.rd {o : Ls} {w : World} (h : o.ok) (hb : HeldB o.blks w) (hn : o.cs.length < 1000000) : o.lv.Rd w := by
  obtain ⟨nl, g, cap, rest, cs⟩ := o
  cases nl with
  | true =>
    have hl : cs = [] := h.nil rfl
    subst hl
    exact ⟨Nat.le_refl _, (by show 0 < 1000000; omega), fun hl => absurd rfl hl, fun x hx => by cases hx⟩
  | false =>
    refine ⟨?_, ?_, fun _ => ⟨g, 0, rfl, ?_⟩, fun x hx => ?_⟩
    · show (cs.map Cl.sv).length ≤ cap; rw [List.length_map]; exact (h.own rfl).le
    · show (cs.map Cl.sv).length < _; rw [List.length_map]; exact hn
    · show RdB w g 0 ((cs.map Cl.sv).map Sv.v)
      rw [map_sv h.each]
      exact RdB.all (hb _ (List.mem_cons_self ..))
    · obtain ⟨c, hc, rfl⟩ := List.mem_map.1 hx
      exact c.rd (h.each c hc) fun p hp => hb p (List.mem_cons_of_mem _ (mem_clB hc hp))
theorem clB_own (cs : List Cl) : ∀ p ∈ clB cs, p.own = true := fun p hp => by
  obtain ⟨c, _, h⟩ := List.mem_flatMap.1 hp
  exact c.blks_own p h
theorem Ls.blks_own (o : Ls) : ∀ p ∈ o.blks, p.own = true := by
  obtain ⟨nl, g, cap, rest, cs⟩ := o
  cases nl with
  | true => intro p hp; cases hp
  | false =>
    intro p hp
    rcases List.mem_cons.1 hp with rfl | hp
    · rfl
    · exact clB_own cs p hp
theorem clB_snoc (cs : List Cl) (c : Cl) : clB (cs ++ [c]) = clB cs ++ c.blks := by simp [clB]
/-- An entry of the outbox. -/
structure Ent where
  ix : Nat
  due : Nat
  c : Cl
def Ent.cells (e : Ent) : List Value := [.int .u32 ((e.ix : Nat) : Int), .int .u64 ((e.due : Nat) : Int), e.c.v]
def entC (E : List Ent) : List Value := E.flatMap Ent.cells
theorem entC_cons (e : Ent) (E : List Ent) : entC (e :: E) = e.cells ++ entC E := rfl
theorem entC_app (E F : List Ent) : entC (E ++ F) = entC E ++ entC F := by simp [entC]
theorem entC_len : ∀ E : List Ent, (entC E).length = E.length * 3
  | [] => rfl
  | e :: E => by rw [entC_cons, List.length_append, entC_len E, List.length_cons, Nat.add_mul]; show 3 + _ = _; omega
theorem entC_at : ∀ {E : List Ent} {k j : Nat} {e : Ent}, E[k]? = some e → j < 3 → (entC E)[k * 3 + j]? = e.cells[j]?
  | e :: E, 0, j, e', h, hj => by
    rw [List.getElem?_cons_zero] at h
    injection h with h
    subst h
    rw [entC_cons, Nat.zero_mul, Nat.zero_add, List.getElem?_append_left (by exact hj)]
  | e :: E, k + 1, j, e', h, hj => by
    rw [List.getElem?_cons_succ] at h
    rw [entC_cons, List.getElem?_append_right (by show 3 ≤ _; omega), ← entC_at h hj]
    congr 1
    show _ - 3 = _
    omega
theorem entC_set : ∀ {E : List Ent} {k : Nat} {e : Ent} (d : Nat), E[k]? = some e → (entC E).set (k * 3 + 1) (.int .u64 ((d : Nat) : Int)) = entC (E.set k { e with due := d })
  | e :: E, 0, e', d, h => by
    rw [List.getElem?_cons_zero] at h
    injection h with h
    subst h
    rfl
  | e :: E, k + 1, e', d, h => by
    rw [List.getElem?_cons_succ] at h
    rw [entC_cons, List.set_append_right _ _ (by show 3 ≤ _; omega), List.set_cons_succ, entC_cons, ← entC_set d h]
    congr 2
    show _ - 3 = _
    omega
theorem entC_one (E : List Ent) : ∀ u ∈ entC E, u.oneCell' = true := fun u hu => by
  obtain ⟨e, _, h⟩ := List.mem_flatMap.1 hu
  simp only [Ent.cells, List.mem_cons, List.not_mem_nil, or_false] at h
  rcases h with rfl | rfl | rfl
  · rfl
  · rfl
  · exact e.c.one
def entB (E : List Ent) : List Blk := E.flatMap (·.c.blks)
theorem entB_own (E : List Ent) : ∀ p ∈ entB E, p.own = true := fun p hp => by
  obtain ⟨e, _, h⟩ := List.mem_flatMap.1 hp
  exact e.c.blks_own p h
/-- The numbers of an entry: index, when it is due, octets. -/
def Ent.d (e : Ent) : Nat × Nat × List Nat := (e.ix, e.due, e.c.l)
end Go.Proofs.Ytlnlppmhiobgjaa
