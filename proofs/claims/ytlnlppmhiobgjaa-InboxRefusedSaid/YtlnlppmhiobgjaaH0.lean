/- A walk by rules: what is known of the slots and of the blocks, and one rule for each kind of operation. -/
import Derived.WalkKit
import Derived.Below
import Derived.Orders
import Derived.Laws.Rows
import Derived.Laws.Cells
set_option linter.unusedVariables false
set_option linter.unusedSimpArgs false
namespace Go.Proofs.Ytlnlppmhiobgjaa
open Go Go.RowKit

/-! ### Slots -/
/-- What is known of a slot: the latest entry. -/
def lk : List (Nat × Value) → Nat → Option Value
  | [], _ => none
  | (k, v) :: V, t => bif Nat.beq k t then some v else lk V t
def evV (V : List (Nat × Value)) : Operand → Value
  | .tmp t => (lk V t).getD undef
  | .const v => v
  | .global g => .pointer (some ⟨g, 0, none⟩)
  | .func f => .func (.func f) #[] #[]
def isSel : Op → Bool
  | .select _ _ => true
  | _ => false
def knownX (V : List (Nat × Value)) : Operand → Bool
  | .tmp t => (lk V t).isSome
  | _ => true
def knownB (V : List (Nat × Value)) (o : Oper) : Bool := !(isSel o.op) && o.op.operands.all (knownX V)
def upV (V : List (Nat × Value)) : Option Nat → Value → List (Nat × Value)
  | none, _ => V
  | some t, v => (t, v) :: V
def okDst (n : Nat) : Option Nat → Bool
  | none => true
  | some t => Nat.blt t n
structure Fm (n : Nat) (ds : List Deferred) (V : List (Nat × Value)) (a : Act) : Prop where
  df : a.defers = ds
  sz : a.tmps.size = n
  at_ : ∀ t v, lk V t = some v → a.tmps[t]? = some v

theorem Fm.eval {n ds V a} (F : Fm n ds V a) {x : Operand} (hk : knownX V x = true) : a.eval x = evV V x := by
  cases x with
  | tmp t =>
    simp only [knownX] at hk
    obtain ⟨v, hv⟩ := Option.isSome_iff_exists.1 hk
    show a.tmps.getD t undef = (lk V t).getD undef
    rw [Array.getD_eq_getD_getElem?, F.at_ t v hv, hv]
  | _ => rfl
theorem Fm.exec {n ds V a} (F : Fm n ds V a) {o : Oper} (hk : knownB V o = true) : execOp a.eval o = execOp (evV V) o := by
  simp only [knownB, Bool.and_eq_true, Bool.not_eq_true'] at hk
  refine execOp_congr o (fun cs b e => ?_) (fun x hx => ?_)
  · rw [e] at hk; simp [isSel] at hk
  · obtain ⟨i, hi, rfl⟩ := Array.mem_iff_getElem.1 hx
    exact F.eval (Array.all_eq_true.1 hk.2 i hi)
theorem Fm.put {n ds V a} (F : Fm n ds V a) (o : Option Nat) (v : Value) (hd : okDst n o = true) : Fm n ds (upV V o v) (a.put o v) := by
  cases o with
  | none => exact F
  | some t =>
    have ht : t < n := by simpa [okDst] using hd
    refine ⟨F.df, by simpa [Act.put] using F.sz, fun k u hk => ?_⟩
    show (a.tmps.setIfInBounds t v)[k]? = some u
    rw [Array.getElem?_setIfInBounds]
    simp only [upV, lk] at hk
    cases hb : Nat.beq t k with
    | true =>
      rw [hb] at hk
      have e : t = k := Nat.eq_of_beq_eq_true hb
      simp only [cond_true, Option.some.injEq] at hk
      rw [if_pos e, if_pos (by rw [F.sz, ]; exact ht), hk]
    | false =>
      rw [hb] at hk
      have e : t ≠ k := Nat.ne_of_beq_eq_false hb
      rw [if_neg e]
      exact F.at_ k u hk
/-- Some of what is known. -/
def subL (V : List (Nat × Value)) : List (Nat × Value) → Prop
  | [] => True
  | (t, v) :: U => lk V t = some v ∧ subL V U
theorem Fm.weak {n ds V a} (F : Fm n ds V a) (U : List (Nat × Value)) (h : subL V U) : Fm n ds U a := by
  refine ⟨F.df, F.sz, fun t v hk => F.at_ t v ?_⟩
  induction U with
  | nil => simp [lk] at hk
  | cons p U ih =>
    obtain ⟨k, u⟩ := p
    obtain ⟨h1, h2⟩ := h
    simp only [lk] at hk
    cases hb : Nat.beq k t with
    | true =>
      rw [hb] at hk
      simp only [cond_true, Option.some.injEq] at hk
      rw [← Nat.eq_of_beq_eq_true hb, h1, hk]
    | false => rw [hb] at hk; exact ih h2 hk
def argV : List Value → Nat → List (Nat × Value)
  | [], _ => []
  | v :: l, k => (k, v) :: argV l (k + 1)
theorem argV_lk {l : List Value} : ∀ {k t v}, lk (argV l k) t = some v → k ≤ t ∧ l[t - k]? = some v := by
  induction l with
  | nil => intro k t v h; simp [argV, lk] at h
  | cons u l ih =>
    intro k t v h
    simp only [argV, lk] at h
    cases hb : Nat.beq k t with
    | true =>
      rw [hb] at h
      simp only [cond_true, Option.some.injEq] at h
      have e := Nat.eq_of_beq_eq_true hb
      subst e; simp [h]
    | false =>
      rw [hb] at h
      obtain ⟨h1, h2⟩ := ih h
      refine ⟨by omega, ?_⟩
      have e : t - k = (t - (k + 1)) + 1 := by omega
      rw [e, List.getElem?_cons_succ]; exact h2

/-! ### Blocks -/
/-- Nothing that was there has turned but for X. -/
structure Kept (X : List Nat) (w w' : World) : Prop where
  os : w'.os = w.os
  tape : w'.tape = w.tape
  output : w'.output = w.output
  size : w.heap.size ≤ w'.heap.size
  block : ∀ k, k < w.heap.size → k ∉ X → w'.heap[k]? = w.heap[k]?
theorem Kept.refl (X : List Nat) (w : World) : Kept X w w := ⟨rfl, rfl, rfl, Nat.le_refl _, fun _ _ _ => rfl⟩
theorem Kept.below {w w' : World} (h : Kept [] w w') : Below w.heap.size w w' := ⟨h.os, h.tape, h.output, h.size, fun k hk => h.block k hk (by simp)⟩
theorem Kept.of_below {w w' : World} (h : Below w.heap.size w w') : Kept [] w w' := ⟨h.os, h.tape, h.output, h.size, fun k hk _ => h.block k hk⟩
theorem Kept.trans {X : List Nat} {w0 w w' : World} (h : Kept X w0 w) {Y : List Nat} (hY : ∀ y ∈ Y, w0.heap.size ≤ y ∨ y ∈ X) (k : Kept Y w w') : Kept X w0 w' :=
  ⟨k.os.trans h.os, k.tape.trans h.tape, k.output.trans h.output, Nat.le_trans h.size k.size, fun i hi hx => (k.block i (Nat.lt_of_lt_of_le hi h.size) (fun hy => by
    rcases hY i hy with h1 | h1
    · omega
    · exact hx h1)).trans (h.block i hi hx)⟩
theorem Kept.mono {X Y : List Nat} {w w' : World} (h : Kept X w w') (hs : ∀ x ∈ X, x ∈ Y) : Kept Y w w' := ⟨h.os, h.tape, h.output, h.size, fun k hk hx => h.block k hk (fun hy => hx (hs _ hy))⟩
theorem Kept.alloc (w : World) (o : Obj) : Kept [] w (w.alloc o) := ⟨rfl, rfl, rfl, by simp, fun k hk _ => Below.heap_alloc _ _ _ hk⟩
theorem Kept.setRow (w : World) (g : Nat) (cs : Array Value) : Kept [g] w (w.setRow g cs) := ⟨rfl, rfl, rfl, by simp, fun k hk hx => setRow_other _ _ _ _ (by simpa using hx)⟩
theorem Kept.drew (w : World) : Kept [] w { w with drawn := w.drawn + 1 } := ⟨rfl, rfl, rfl, Nat.le_refl _, fun _ _ _ => rfl⟩

structure Blk where
  own : Bool
  ad : Nat
  ob : Obj
abbrev row (ad : Nat) (cs : Array Value) (ty : TypeId) : Blk := ⟨true, ad, .cells cs ty (0, 0)⟩
/-- The blocks L are as told. -/
structure HeldL (L : List Blk) (w : World) : Prop where
  held : ∀ p ∈ L, w.heap[p.ad]? = some p.ob
theorem HeldL.at_ {L w} (H : HeldL L w) {k : Nat} {p : Blk} (hk : L[k]? = some p) : w.heap[p.ad]? = some p.ob := H.held p (List.mem_of_getElem? hk)
structure Hp (X : List Nat) (w0 : World) (L : List Blk) (w : World) : Prop where
  kept : Kept X w0 w
  held : ∀ p ∈ L, w.heap[p.ad]? = some p.ob
  own : ∀ p ∈ L, p.own = true → w0.heap.size ≤ p.ad ∨ p.ad ∈ X
  far : L.Pairwise fun p q => p.ad ≠ q.ad
theorem heap_in {w : World} {k : Nat} {o : Obj} (h : w.heap[k]? = some o) : k < w.heap.size := by
  rcases Nat.lt_or_ge k w.heap.size with h' | h'
  · exact h'
  · rw [Array.getElem?_eq_none h'] at h; cases h
theorem Hp.start (X : List Nat) (w : World) : Hp X w [] w := ⟨Kept.refl _ _, by simp, by simp, List.Pairwise.nil⟩
theorem Hp.at_ {X w0 L w} (H : Hp X w0 L w) {k : Nat} {p : Blk} (hk : L[k]? = some p) : w.heap[p.ad]? = some p.ob := H.held p (List.mem_of_getElem? hk)
theorem Hp.weak {X w0 L w} (H : Hp X w0 L w) {L' : List Blk} (h : L'.Sublist L) : Hp X w0 L' w :=
  ⟨H.kept, fun p hp => H.held p (h.subset hp), fun p hp => H.own p (h.subset hp), H.far.sublist h⟩
theorem Hp.call {X w0 L w w'} (H : Hp X w0 L w) (k : Kept [] w w') : Hp X w0 L w' :=
  ⟨H.kept.trans (by simp) k, fun p hp => (k.block _ (heap_in (H.held p hp)) (by simp)).trans (H.held p hp), H.own, H.far⟩
theorem Hp.alloc {X w0 L w} (H : Hp X w0 L w) (ob : Obj) : Hp X w0 (⟨true, w.heap.size, ob⟩ :: L) (w.alloc ob) := by
  refine ⟨H.kept.trans (by simp) (Kept.alloc w ob), fun p hp => ?_, fun p hp ho => ?_, List.pairwise_cons.2 ⟨fun p hp => ?_, H.far⟩⟩
  · rcases List.mem_cons.1 hp with rfl | hp
    · exact heap_alloc_new _ _
    · exact (Below.heap_alloc _ _ _ (heap_in (H.held p hp))).trans (H.held p hp)
  · rcases List.mem_cons.1 hp with rfl | hp
    · exact .inl H.kept.size
    · exact H.own p hp ho
  · have := heap_in (H.held p hp)
    show w.heap.size ≠ p.ad
    omega
theorem Hp.put {X w0 L w w'} (H : Hp X w0 L w) {k : Nat} {ad : Nat} {ob ob' : Obj} (hk : L[k]? = some ⟨true, ad, ob⟩) (hK : Kept [ad] w w') (hn : w'.heap[ad]? = some ob') : Hp X w0 (L.set k ⟨true, ad, ob'⟩) w' := by
  have hmem := List.mem_of_getElem? hk
  have hlt : k < L.length := (List.getElem?_eq_some_iff.1 hk).1
  have hkk : L[k] = ⟨true, ad, ob⟩ := (List.getElem?_eq_some_iff.1 hk).2
  have hne : ∀ j (hj : j < L.length), j ≠ k → L[j].ad ≠ ad := fun j hj hjk => by
    have hp := List.pairwise_iff_getElem.1 H.far
    rcases Nat.lt_or_gt_of_ne hjk with h | h
    · have := hp j k hj hlt h; rw [hkk] at this; exact this
    · have := hp k j hlt hj h; rw [hkk] at this; exact fun e => this e.symm
  have hcase : ∀ p ∈ L.set k ⟨true, ad, ob'⟩, p = ⟨true, ad, ob'⟩ ∨ (p ∈ L ∧ p.ad ≠ ad) := fun p hp => by
    obtain ⟨j, hj, rfl⟩ := List.mem_iff_getElem.1 hp
    rw [List.getElem_set]
    by_cases e : k = j
    · rw [if_pos e]; exact .inl rfl
    · rw [if_neg e]
      exact .inr ⟨List.getElem_mem _, hne j (by simpa using hj) (fun h => e h.symm)⟩
  refine ⟨H.kept.trans (fun y hy => by
    simp only [List.mem_singleton] at hy
    subst hy; exact H.own _ hmem rfl) hK, fun p hp => ?_, fun p hp ho => ?_, ?_⟩
  · rcases hcase p hp with rfl | ⟨h1, h2⟩
    · exact hn
    · exact (hK.block _ (heap_in (H.held p h1)) (by simpa using h2)).trans (H.held p h1)
  · rcases hcase p hp with rfl | ⟨h1, h2⟩
    · exact H.own ⟨true, ad, ob⟩ hmem rfl
    · exact H.own p h1 ho
  · rw [List.pairwise_iff_getElem]
    intro i j hi hj hij
    rw [List.getElem_set, List.getElem_set]
    have hp := List.pairwise_iff_getElem.1 H.far i j (by simpa using hi) (by simpa using hj) hij
    by_cases e1 : k = i
    · subst e1
      rw [if_pos rfl, if_neg (by omega)]
      exact fun e => hne j (by simpa using hj) (by omega) e.symm
    · rw [if_neg e1]
      by_cases e2 : k = j
      · subst e2
        rw [if_pos rfl]
        exact hne i (by simpa using hi) (by omega)
      · rw [if_neg e2]; exact hp
theorem Hp.setRow {X w0 L w} (H : Hp X w0 L w) {k : Nat} {ad : Nat} {cs : Array Value} {t : TypeId} {fr : Nat × Nat} (hk : L[k]? = some ⟨true, ad, .cells cs t fr⟩) (cs' : Array Value) : Hp X w0 (L.set k ⟨true, ad, .cells cs' t fr⟩) (w.setRow ad cs') :=
  H.put hk (Kept.setRow _ _ _) (setRow_heap _ _ _ _ _ _ (H.at_ hk))

/-! ### Operations in their order -/
/-- Whether a guarded operation is carried out. -/
def wants (ops : Array Oper) (V : List (Nat × Value)) (o : Oper) : Option Bool :=
  match o.guard with
  | none => some true
  | some (j, b) => match ((ops[j]?).bind (·.dst)).bind (lk V) with
    | some (.bool c) => some (c == b)
    | some (.tuple _) => some false
    | _ => none
section
variable {P : Program} {ops : Array Oper} {Q : Exit → Act → World → Prop} {rest : List Oper} {o : Oper} {a : Act} {w w0 : World} {n : Nat} {ds : List Deferred} {V : List (Nat × Value)} {X : List Nat} {L : List Blk}

theorem Fm.wanted (F : Fm n ds V a) {b : Bool} (h : wants ops V o = some b) : Region.wanted o (yielded ops a.tmps) = b := by
  unfold wants at h
  unfold Region.wanted
  split at h
  · rename_i hg; rw [hg]; simpa using h
  · rename_i j c hg
    rw [hg]
    dsimp only
    split at h
    · rename_i d hd
      obtain ⟨t, ht, hv⟩ := Option.bind_eq_some_iff.1 hd
      have := F.at_ t _ hv
      unfold yielded
      rw [ht]
      simp only [Option.bind_some, this]
      simp only [Option.some.injEq] at h
      rw [← h]
      simp
    · rename_i d hd
      obtain ⟨t, ht, hv⟩ := Option.bind_eq_some_iff.1 hd
      have := F.at_ t _ hv
      unfold yielded
      rw [ht]
      simp only [Option.bind_some, this]
      simp only [Option.some.injEq] at h
      rw [← h]
      simp
    · cases h
theorem T_end {K : Act → World → Prop} (h : K a w) : wpList P ops (Exit.then K Q) [] a w := h
theorem T_skip (F : Fm n ds V a) (hg : wants ops V o = some false) (hd : okDst n o.dst = true) (h : ∀ a, Fm n ds (upV V o.dst undef) a → wpList P ops Q rest a w) : wpList P ops Q (o :: rest) a w := by
  refine wpList_step fun K hK => ?_
  rw [F.wanted hg, if_neg (by simp)]
  exact hK _ _ (h _ (F.put _ _ hd))
def opB (ops : Array Oper) (V : List (Nat × Value)) (n : Nat) (o : Oper) : Bool := (match wants ops V o with | some true => true | _ => false) && knownB V o && okDst n o.dst
theorem opB_spec (h : opB ops V n o = true) : wants ops V o = some true ∧ knownB V o = true ∧ okDst n o.dst = true := by
  unfold opB at h
  simp only [Bool.and_eq_true] at h
  obtain ⟨⟨h1, h2⟩, h3⟩ := h
  refine ⟨?_, h2, h3⟩
  split at h1
  · assumption
  · cases h1
theorem T_core (F : Fm n ds V a) (hg : wants ops V o = some true) (hk : knownB V o = true) (h : ∀ K : Act → World → Prop, (∀ a w, wpList P ops Q rest a w → K a w) → o.upon P a K Q ((execOp (evV V) o).run P w)) : wpList P ops Q (o :: rest) a w := by
  refine wpList_step fun K hK => ?_
  rw [F.wanted hg, if_pos rfl]
  unfold Oper.wp
  rw [F.exec hk]
  exact h K hK
theorem T_val (F : Fm n ds V a) (H : Hp X w0 L w) (hc0 : opB ops V n o = true) (v : Value) (hr : ∀ w, HeldL L w → (execOp (evV V) o).run P w = .ok (.value v) w)
    (h : ∀ a, Fm n ds (upV V o.dst v) a → wpList P ops Q rest a w) : wpList P ops Q (o :: rest) a w := by
  obtain ⟨hg, hk, hd0⟩ := opB_spec hc0
  refine T_core F hg hk fun K hK => ?_
  rw [hr w ⟨H.held⟩, Oper.upon_value]
  exact hK _ _ (h _ (F.put _ _ hd0))
theorem T_set (F : Fm n ds V a) (H : Hp X w0 L w) (hc0 : opB ops V n o = true) (hd : o.dst = none) (k : Nat) {ad : Nat} {cs : Array Value} {t : TypeId} (hl : L[k]? = some ⟨true, ad, .cells cs t (0, 0)⟩) (cs' : Array Value)
    (hr : ∀ w, HeldL L w → (execOp (evV V) o).run P w = .ok .skip (w.setRow ad cs')) (L' : List Blk) (hL : L.set k ⟨true, ad, .cells cs' t (0, 0)⟩ = L')
    (h : ∀ a w, Fm n ds V a → Hp X w0 L' w → wpList P ops Q rest a w) : wpList P ops Q (o :: rest) a w := by
  obtain ⟨hg, hk, hd0⟩ := opB_spec hc0
  refine T_core F hg hk fun K hK => ?_
  rw [hr w ⟨H.held⟩, Oper.upon_skip, hd]
  exact hK _ _ (h _ _ F (hL ▸ H.setRow hl cs'))
theorem T_new (F : Fm n ds V a) (H : Hp X w0 L w) (hc0 : opB ops V n o = true) (vf : Nat → Value) (ob : Obj)
    (hr : ∀ w, (execOp (evV V) o).run P w = .ok (.value (vf w.heap.size)) (w.alloc ob))
    (h : ∀ ad a w, Fm n ds (upV V o.dst (vf ad)) a → Hp X w0 (⟨true, ad, ob⟩ :: L) w → wpList P ops Q rest a w) : wpList P ops Q (o :: rest) a w := by
  obtain ⟨hg, hk, hd0⟩ := opB_spec hc0
  refine T_core F hg hk fun K hK => ?_
  rw [hr w, Oper.upon_value]
  exact hK _ _ (h _ _ _ (F.put _ _ hd0) (H.alloc ob))
/-- A call that tells one of the values that R allows, and keeps all. -/
theorem T_call (F : Fm n ds V a) (H : Hp X w0 L w) (hc0 : opB ops V n o = true) (f : Nat) (args : Array Value) (v : Value)
    (hr : ∀ w, (execOp (evV V) o).run P w = .ok (.enter f args) w) (hc : Calls P f args w fun e w' => e = .returned v ∧ Kept [] w w')
    (h : ∀ a w, Fm n ds (upV V o.dst v) a → Hp X w0 L w → wpList P ops Q rest a w) : wpList P ops Q (o :: rest) a w := by
  obtain ⟨hg, hk, hd0⟩ := opB_spec hc0
  refine T_core F hg hk fun K hK => ?_
  rw [hr w, Oper.upon_enter]
  refine hc.mono fun e w' ⟨he, hw⟩ => ?_
  subst he
  exact hK _ _ (h _ _ (F.put _ _ hd0) (H.call hw))
theorem T_callR (F : Fm n ds V a) (hc0 : opB ops V n o = true) (f : Nat) (args : Array Value) (R : Value → World → Prop)
    (hr : ∀ w, (execOp (evV V) o).run P w = .ok (.enter f args) w) (hc : Calls P f args w fun e w' => ∃ v, e = .returned v ∧ R v w')
    (h : ∀ v a w, Fm n ds (upV V o.dst v) a → R v w → wpList P ops Q rest a w) : wpList P ops Q (o :: rest) a w := by
  obtain ⟨hg, hk, hd0⟩ := opB_spec hc0
  refine T_core F hg hk fun K hK => ?_
  rw [hr w, Oper.upon_enter]
  refine hc.mono fun e w' ⟨v, he, hw⟩ => ?_
  subst he
  exact hK _ _ (h _ _ _ (F.put _ _ hd0) hw)
end

theorem Calls.kept {P : Program} {f : FuncId} {args : Array Value} {w : World} {v : Value} (h : Calls P f args w fun e w' => e = .returned v ∧ Below w.heap.size w w') : Calls P f args w fun e w' => e = .returned v ∧ Kept [] w w' :=
  h.mono fun _ _ ⟨h1, h2⟩ => ⟨h1, Kept.of_below h2⟩
theorem Calls.below {P : Program} {f : FuncId} {args : Array Value} {w : World} {v : Value} (h : Calls P f args w fun e w' => e = .returned v ∧ Kept [] w w') : Calls P f args w fun e w' => e = .returned v ∧ Below w.heap.size w w' :=
  h.mono fun _ _ ⟨h1, h2⟩ => ⟨h1, h2.below⟩

/-! ### What single operations come to -/
section
variable {P : Program} {o : Oper} {w : World} {V : List (Nat × Value)}
theorem run_loadPart (w : World) (g off : Nat) (t ty : TypeId) (all cs : Array Value) (fr : Nat × Nat) (d : TypeDesc) (hg : w.heap[g]? = some (.cells all t fr))
    (hcs : ∀ j v, cs[j]? = some v → all[off + j]? = some v)
    (hu : P.underlying ty = some d) (hd : (match d with | .struct _ | .array _ _ => true | _ => false) = true) (hi : (P.info? ty).map (·.size) = some cs.size) :
    (loadVar ty ⟨g, off, none⟩).run P w = .ok (.agg cs) w := by
  have hl : (loadCells ⟨g, off, none⟩ cs.toList.length).run P w = .ok cs.toList.toArray w :=
    run_loadCells_list (P := P) w ⟨g, off, none⟩ cs.toList (fun j v hv => by
      have hadd : (⟨g, off, none⟩ : Addr).add j = ⟨g, off + j, none⟩ := by unfold Addr.add; split <;> simp_all
      rw [hadd, cell_of_row w g (off + j) all t fr hg]
      exact hcs j v (by simpa using hv))
  cases hq : P.info? ty with
  | none => simp [hq] at hi
  | some i =>
    have hs : i.size = cs.size := by simpa [hq] using hi
    have hagg : (isAgg ty).run P w = .ok true w := by
      unfold isAgg
      rw [Sem.run_bind, run_underlying hu w]
      cases d <;> simp_all
    simp only [Array.length_toList, Array.toArray_toList] at hl
    simp [loadVar, Sem.run_bind, hagg, sizeOf, typeInfo, hq, hs, hl]
theorem part_all (cs : Array Value) : ∀ j v, cs[j]? = some v → cs[0 + j]? = some v := fun j v h => by rw [Nat.zero_add]; exact h
theorem part_ext {all cs : Array Value} {off : Nat} (h : all.extract off (off + cs.size) = cs) : ∀ j v, cs[j]? = some v → all[off + j]? = some v := fun j v hv => by
  rw [← h] at hv
  rw [Array.getElem?_extract] at hv
  split at hv
  · exact hv
  · cases hv
/-- A whole array, or struct, out of a block. -/
theorem R_load {L : List Blk} (k : Nat) {own : Bool} {g : Nat} {all : Array Value} {t : TypeId} {fr : Nat × Nat} (hl : L[k]? = some ⟨own, g, .cells all t fr⟩) (ty : TypeId) (y : Operand) (ho : o.op = .load ty y) (off : Nat) (hy : evV V y = .pointer (some ⟨g, off, none⟩)) (cs : Array Value) (hcs : ∀ j v, cs[j]? = some v → all[off + j]? = some v)
    (d : TypeDesc) (hu : P.underlying ty = some d) (hd : (match d with | .struct _ | .array _ _ => true | _ => false) = true) (hi : (P.info? ty).map (·.size) = some cs.size) :
    ∀ w, HeldL L w → (execOp (evV V) o).run P w = .ok (.value (.agg cs)) w := fun w H => by
  unfold execOp
  simp only [ho, hy, Instr.loadAt, Instr.sureAddr, Sem.run_bind, Sem.run_pure, Result.andThen_ok, run_loadPart w g off t ty all cs fr d (H.at_ hl) hcs hu hd hi]
/-- One cell. -/
theorem R_cell {L : List Blk} (k : Nat) {own : Bool} {g : Nat} {all : Array Value} {t : TypeId} {fr : Nat × Nat} (hl : L[k]? = some ⟨own, g, .cells all t fr⟩) (ty : TypeId) (y : Operand) (ho : o.op = .load ty y) (off : Nat) (hy : evV V y = .pointer (some ⟨g, off, none⟩)) (v : Value) (hv : all[off]? = some v)
    (d : TypeDesc) (hu : P.underlying ty = some d) (hd : (match d with | .struct _ | .array _ _ => true | _ => false) = false) :
    ∀ w, HeldL L w → (execOp (evV V) o).run P w = .ok (.value v) w := fun w H => by
  have hagg : (isAgg ty).run P w = .ok false w := by
    unfold isAgg
    rw [Sem.run_bind, run_underlying hu w]
    cases d <;> simp_all
  have hc : w.cell? ⟨g, off, none⟩ = some v := by rw [cell_of_row w g off all t fr (H.at_ hl)]; exact hv
  unfold execOp
  simp [ho, hy, Instr.loadAt, Instr.sureAddr, loadVar, Sem.run_bind, hagg, hc, go_sem]
theorem run_storeRow {ty : TypeId} {x y : Operand} (ho : o.op = .store ty x y) {g : Nat} (hx : evV V x = .pointer (some ⟨g, 0, none⟩)) {cs : Array Value} (hy : evV V y = .agg cs) {old : Array Value} {t : TypeId} (hg : w.heap[g]? = some (.cells old t (0, 0)))
    (hinf : (P.info? ty).map (·.size) = some cs.size) (hold : old.size = cs.size) (h1 : cs.all (·.oneCell') = true) : (execOp (evV V) o).run P w = .ok .skip (w.setRow g cs) := by
  unfold execOp
  simp only [ho, hx, hy, Instr.storeAt, Instr.sureAddr, Sem.run_bind, Sem.run_pure, Result.andThen_ok, run_storeVar_row w g t ty old cs hg hinf hold h1]
def plainV : Value → Bool
  | .bool _ | .int _ _ | .string _ | .pointer _ | .slice _ _ _ | .map _ => true
  | _ => false
theorem run_storeCell {ty : TypeId} {x y : Operand} (ho : o.op = .store ty x y) {g off : Nat} (hx : evV V x = .pointer (some ⟨g, off, none⟩)) {v : Value} (hy : evV V y = v) (hv : plainV v = true) {old : Array Value} {t : TypeId} (hg : w.heap[g]? = some (.cells old t (0, 0)))
    (hoff : off < old.size) {d : TypeDesc} (hu : P.underlying ty = some d) (hd : (match d with | .struct _ | .array _ _ => true | _ => false) = false) (hinf : (P.info? ty).map (·.size) = some 1) : (execOp (evV V) o).run P w = .ok .skip (w.setRow g (old.setIfInBounds off v)) := by
  have hagg : (isAgg ty).run P w = .ok false w := by
    unfold isAgg
    rw [Sem.run_bind, run_underlying hu w]
    cases d <;> simp_all
  obtain ⟨c, hc'⟩ : ∃ c, old[off]? = some c := ⟨_, Array.getElem?_eq_getElem hoff⟩
  have hc : w.cell? ⟨g, off, none⟩ = some c := by rw [cell_of_row w g off old t (0, 0) hg]; exact hc'
  have hf := frozen_of_row w g off old t hg
  have hset := setCell_eq_setRow w g off old t (0, 0) v hg
  have hsz : (sizeOf ty).run P w = .ok 1 w := by
    cases hq : P.info? ty with
    | none => simp [hq] at hinf
    | some i =>
      have hs : i.size = 1 := by simpa [hq] using hinf
      simp [sizeOf, typeInfo, hq, hs, Sem.run_bind, go_sem]
  unfold execOp
  cases v <;> simp_all [Instr.storeAt, Instr.sureAddr, storeVar, Sem.run_bind, go_sem, plainV]
theorem S_row {L : List Blk} (k : Nat) {own : Bool} {g : Nat} {old : Array Value} {t : TypeId} (hl : L[k]? = some ⟨own, g, .cells old t (0, 0)⟩) (ty : TypeId) (x y : Operand) (ho : o.op = .store ty x y) (hx : evV V x = .pointer (some ⟨g, 0, none⟩)) (cs : Array Value) (hy : evV V y = .agg cs)
    (hinf : (P.info? ty).map (·.size) = some cs.size) (hold : old.size = cs.size) (h1 : cs.all (·.oneCell') = true) : ∀ w, HeldL L w → (execOp (evV V) o).run P w = .ok .skip (w.setRow g cs) :=
  fun w H => run_storeRow ho hx hy (H.at_ hl) hinf hold h1
theorem S_cell {L : List Blk} (k : Nat) {own : Bool} {g : Nat} {old : Array Value} {t : TypeId} (hl : L[k]? = some ⟨own, g, .cells old t (0, 0)⟩) (ty : TypeId) (x y : Operand) (ho : o.op = .store ty x y) (off : Nat) (hx : evV V x = .pointer (some ⟨g, off, none⟩)) (v : Value) (hy : evV V y = v) (hv : plainV v = true) (hoff : off < old.size)
    (d : TypeDesc) (hu : P.underlying ty = some d) (hd : (match d with | .struct _ | .array _ _ => true | _ => false) = false) (hinf : (P.info? ty).map (·.size) = some 1) : ∀ w, HeldL L w → (execOp (evV V) o).run P w = .ok .skip (w.setRow g (old.setIfInBounds off v)) :=
  fun w H => run_storeCell ho hx hy hv (H.at_ hl) hoff hu hd hinf
theorem P_row {g : Nat} {Z R : Obj} {old cs : Array Value} {t : TypeId} (hZ : Z = .cells old t (0, 0)) (hR : R = .cells cs t (0, 0)) {ty : TypeId} {x y : Operand} (ho : o.op = .store ty x y) (hx : evV V x = .pointer (some ⟨g, 0, none⟩)) (hy : evV V y = .agg cs)
    (hinf : (P.info? ty).map (·.size) = some cs.size) (hold : old.size = cs.size) (h1 : cs.all (·.oneCell') = true) (hg : w.heap[g]? = some Z) : ∃ w', (execOp (evV V) o).run P w = .ok .skip w' ∧ Kept [g] w w' ∧ w'.heap[g]? = some R := by
  subst hZ hR
  exact ⟨_, run_storeRow ho hx hy hg hinf hold h1, Kept.setRow _ _ _, setRow_heap _ _ _ _ _ _ hg⟩
theorem P_cell {g off : Nat} {Z R : Obj} {old : Array Value} {v : Value} {t : TypeId} (hZ : Z = .cells old t (0, 0)) (hR : R = .cells (old.setIfInBounds off v) t (0, 0)) {ty : TypeId} {x y : Operand} (ho : o.op = .store ty x y) (hx : evV V x = .pointer (some ⟨g, off, none⟩)) (hy : evV V y = v)
    (hv : plainV v = true) (hoff : off < old.size) {d : TypeDesc} (hu : P.underlying ty = some d) (hd : (match d with | .struct _ | .array _ _ => true | _ => false) = false) (hinf : (P.info? ty).map (·.size) = some 1) (hg : w.heap[g]? = some Z) : ∃ w', (execOp (evV V) o).run P w = .ok .skip w' ∧ Kept [g] w w' ∧ w'.heap[g]? = some R := by
  subst hZ hR
  exact ⟨_, run_storeCell ho hx hy hv hg hoff hu hd hinf, Kept.setRow _ _ _, setRow_heap _ _ _ _ _ _ hg⟩
end

/-! ### Control -/
section
variable {P : Program} {Q : Exit → Act → World → Prop} {a : Act} {w : World} {n : Nat} {ds : List Deferred} {V : List (Nat × Value)} {x y : Code}
theorem C_enter {f : FuncId} {fn : Func} {c : Code} {args : Array Value} {R : Ending → World → Prop} (hf : P.funcs[f]? = some fn) (hb : fn.body = some c) (n : Nat) (hn : fn.ntmps = n) (hle : args.size ≤ n)
    (h : ∀ a, Fm n [] (argV args.toList 0) a → c.wp P (bodyPost P fn R) a w) : Calls P f args w R := by
  refine calls_of_wp hf hb (h _ ⟨rfl, ?_, fun t v hv => ?_⟩)
  · simp only [Array.size_append, Array.size_replicate, hn]; omega
  · obtain ⟨_, h2⟩ := argV_lk hv
    rw [Nat.sub_zero, Array.getElem?_toList] at h2
    rw [Array.getElem?_append_left (Array.getElem?_eq_some_iff.1 h2).1]
    exact h2
theorem C_seqK (h : ∀ K : Act → World → Prop, (∀ a w, y.wp P Q a w → K a w) → x.wp P (Exit.then K Q) a w) : (Code.seq x y).wp P Q a w := wp_seq_k h
theorem C_seq (h : x.wp P (Exit.then (fun a w => y.wp P Q a w) Q) a w) : (Code.seq x y).wp P Q a w := wp_seq h
theorem C_region {id : Nat} {l : List Oper} (h : wpList P l.toArray Q l a w) : (Code.region id l.toArray false).wp P Q a w := wp_region_lit h
theorem C_if (F : Fm n ds V a) {c : Operand} (b : Bool) (hk : knownX V c = true) (hv : evV V c = .bool b) (h : (if b then x else y).wp P Q a w) : (Code.cond c x y).wp P Q a w := wp_cond (by rw [F.eval hk, hv]) h
/-- What a result slot gives. -/
def resOne (tmps : Array Value) : ResultVar → Sem Value
  | .tmp t => pure (tmps.getD t undef)
  | .cell a t => do loadVar t (← asAddr (tmps.getD a undef))
inductive Runs (P : Program) (tmps : Array Value) (w : World) : List ResultVar → List Value → Prop
  | nil : Runs P tmps w [] []
  | cons {r v rs vs} (h : (resOne tmps r).run P w = .ok v w) (t : Runs P tmps w rs vs) : Runs P tmps w (r :: rs) (v :: vs)
theorem run_mapM_res (tmps : Array Value) (w : World) : ∀ (rs : List ResultVar) (vs : List Value), Runs P tmps w rs vs → (rs.mapM (resOne tmps)).run P w = .ok vs w := by
  intro rs vs h
  induction h with
  | nil => rfl
  | @cons r v rs vs h1 _ ih =>
    rw [List.mapM_cons]
    simp only [Sem.run_bind, h1, Result.andThen_ok, ih, Sem.run_pure]
theorem results_run {fn : Func} {tmps : Array Value} {rs : List ResultVar} (hr : fn.results = rs.toArray) {vs : List Value} (h : Runs P tmps w rs vs) (r : Value) (hv : (if h : vs.toArray.size = 1 then vs.toArray[0] else .tuple vs.toArray) = r) :
    (results fn tmps).run P w = .ok r w := by
  have hm := run_mapM_res tmps w rs vs h
  have e : results fn tmps = (do let vs ← rs.toArray.mapM (resOne tmps); pure (if h : vs.size = 1 then vs[0] else .tuple vs)) := by
    unfold results
    rw [hr]
    congr 1
  rw [e, List.mapM_toArray, Sem.run_bind, map_eq_pure_bind, Sem.run_bind, hm]
  simp only [Result.andThen_ok, Sem.run_pure]
  rw [← hv]
inductive Results (P : Program) (V : List (Nat × Value)) (X : List Nat) (w0 : World) (L : List Blk) : List ResultVar → List Value → Prop
  | nil : Results P V X w0 L [] []
  | tmp {t : Nat} {v : Value} {rs vs} (h : lk V t = some v) (r : Results P V X w0 L rs vs) : Results P V X w0 L (.tmp t :: rs) (v :: vs)
  | row {p : Nat} {ty : TypeId} {rs vs} (k : Nat) {own : Bool} {g : Nat} {cs : Array Value} {t : TypeId} {fr : Nat × Nat} (hl : L[k]? = some ⟨own, g, .cells cs t fr⟩) (hp : lk V p = some (.pointer (some ⟨g, 0, none⟩))) (d : TypeDesc) (hu : P.underlying ty = some d) (hd : (match d with | .struct _ | .array _ _ => true | _ => false) = true) (hi : (P.info? ty).map (·.size) = some cs.size) (r : Results P V X w0 L rs vs) : Results P V X w0 L (.cell p ty :: rs) (.agg cs :: vs)
  | cell {p : Nat} {ty : TypeId} {rs vs} (k : Nat) {own : Bool} {g : Nat} {v : Value} {t : TypeId} {fr : Nat × Nat} (hl : L[k]? = some ⟨own, g, .cells #[v] t fr⟩) (hp : lk V p = some (.pointer (some ⟨g, 0, none⟩))) (d : TypeDesc) (hu : P.underlying ty = some d) (hd : (match d with | .struct _ | .array _ _ => true | _ => false) = false) (r : Results P V X w0 L rs vs) : Results P V X w0 L (.cell p ty :: rs) (v :: vs)
theorem C_ret {fn : Func} {R : Ending → World → Prop} {X : List Nat} {w0 : World} {L : List Blk} (F : Fm n [] V a) (H : Hp X w0 L w) {rs : List ResultVar} (hr : fn.results = rs.toArray) {vs : List Value} (h : Results P V X w0 L rs vs) (r : Value) (hv : (if h : vs.toArray.size = 1 then vs.toArray[0] else .tuple vs.toArray) = r) (hR : R (.returned r) w) :
    bodyPost P fn R .ret a w := by
  refine ⟨F.df, r, results_run hr ?_ r hv, hR⟩
  clear hr hv
  induction h with
  | nil => exact .nil
  | tmp ht _ ih =>
    refine .cons ?_ ih
    have := F.at_ _ _ ht
    simp only [resOne, Sem.run_pure, Array.getD_eq_getD_getElem?, this, Option.getD_some]
  | row k hl hp d hu hd hi _ ih =>
    refine .cons ?_ ih
    have := F.at_ _ _ hp
    simp only [resOne, Sem.run_bind, Array.getD_eq_getD_getElem?, this, Option.getD_some, asAddr, Sem.run_pure, Result.andThen_ok]
    exact run_loadPart w _ 0 _ _ _ _ _ d (H.at_ hl) (part_all _) hu hd hi
  | @cell p ty rs vs k own g v t fr hl hp d hu hd _ ih =>
    refine .cons ?_ ih
    have := F.at_ _ _ hp
    have hagg : (isAgg ty).run P w = .ok false w := by
      unfold isAgg
      rw [Sem.run_bind, run_underlying hu w]
      cases d <;> simp_all
    have hc : w.cell? ⟨g, 0, none⟩ = some v := by rw [cell_of_row w g 0 _ t fr (H.at_ hl)]; rfl
    simp [resOne, Sem.run_bind, Array.getD_eq_getD_getElem?, this, Option.getD_some, asAddr, Sem.run_pure, Result.andThen_ok, loadVar, hagg, hc, go_sem]
/-- A loop: m counts what is left. -/
theorem C_loop {c : Code} (S : Nat → Act → World → Prop) (m : Nat) (h0 : S m a w) (h : ∀ m a w, S m a w → c.wp P (Exit.then (fun a' w' => ∃ m', m' < m ∧ S m' a' w') Q) a w) : (Code.loop c).wp P Q a w := by
  have least : ∀ a w, (∃ m, S m a w) → ∃ m, S m a w ∧ ∀ k, S k a w → m ≤ k := fun a w ⟨m, hm⟩ => by
    induction m using Nat.strongRecOn with
    | _ m ih =>
      by_cases hx : ∃ k, k < m ∧ S k a w
      · obtain ⟨k, hk, hs⟩ := hx; exact ih k hk hs
      · exact ⟨m, hm, fun k hk => Nat.le_of_not_lt fun hlt => hx ⟨k, hlt, hk⟩⟩
  have fn : ∃ μ : Act → World → Nat, ∀ a w, (∃ m, S m a w) → S (μ a w) a w ∧ ∀ k, S k a w → μ a w ≤ k :=
    ⟨fun a w => Classical.epsilon fun m => S m a w ∧ ∀ k, S k a w → m ≤ k, fun a w hm => Classical.epsilon_spec (p := fun m => S m a w ∧ ∀ k, S k a w → m ≤ k) (least a w hm)⟩
  obtain ⟨μ, hμ⟩ := fn
  refine wp_loop (fun a w => ∃ m, S m a w) μ ⟨m, h0⟩ fun a w hI => ?_
  refine Code.wp_mono (fun e a' w' q => ?_) (h _ a w (hμ a w hI).1)
  cases e with
  | normal =>
    obtain ⟨m', hlt, hm'⟩ := q
    exact ⟨⟨m', hm'⟩, Nat.lt_of_le_of_lt ((hμ a' w' ⟨m', hm'⟩).2 m' hm') hlt⟩
  | _ => exact q
end
end Go.Proofs.Ytlnlppmhiobgjaa
