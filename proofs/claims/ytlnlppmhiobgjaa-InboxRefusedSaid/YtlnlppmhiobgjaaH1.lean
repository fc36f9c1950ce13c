/- A walk by rules: regions that draw their order, where one order serves for all. -/
import Derived.Test.YtlnlppmhiobgjaaH0
import Derived.Test.YtlnlppmhiobgjaaI0
set_option linter.unusedVariables false
set_option linter.unusedSimpArgs false
namespace Go.Proofs.Ytlnlppmhiobgjaa
open Go Go.RowKit

/-! ### Frames -/
def nodupB : List Nat → Bool
  | [] => true
  | k :: l => l.all (fun j => !(Nat.beq k j)) && nodupB l
theorem nodupB_spec : ∀ {l : List Nat}, nodupB l = true → l.Nodup
  | [], _ => List.nodup_nil
  | k :: l, h => by
    simp only [nodupB, Bool.and_eq_true, List.all_eq_true, Bool.not_eq_true'] at h
    exact List.nodup_cons.2 ⟨fun hm => Nat.ne_of_beq_eq_false (h.1 k hm) rfl, nodupB_spec h.2⟩
def keys (W : List (Nat × Value)) : List Nat := W.map (·.1)
theorem over_out (W : List (Nat × Value)) : ∀ (t : Array Value) (x : Nat), x ∉ keys W → (over t W)[x]? = t[x]? := by
  induction W with
  | nil => intro t x _; rfl
  | cons p W ih =>
    intro t x hx
    simp only [keys, List.map_cons, List.mem_cons, not_or] at hx
    show (over (t.setIfInBounds p.1 p.2) W)[x]? = _
    rw [ih _ x hx.2, Array.getElem?_setIfInBounds, if_neg (fun e => hx.1 e.symm)]
theorem over_in {W : List (Nat × Value)} : ∀ {T : Array Value} {t : Nat} {v : Value}, (keys W).Nodup → (∀ k ∈ keys W, k < T.size) → lk W t = some v → (over T W)[t]? = some v := by
  induction W with
  | nil => intro T t v _ _ h; simp [lk] at h
  | cons p W ih =>
    obtain ⟨k, u⟩ := p
    intro T t v hn hs h
    have hn' := List.nodup_cons.1 hn
    show (over (T.setIfInBounds k u) W)[t]? = some v
    simp only [lk] at h
    cases hb : Nat.beq k t with
    | true =>
      rw [hb] at h
      simp only [cond_true, Option.some.injEq] at h
      have e := Nat.eq_of_beq_eq_true hb
      subst e
      rw [over_out W _ _ hn'.1, Array.getElem?_setIfInBounds, if_pos rfl, if_pos (hs k (by simp [keys])), h]
    | false =>
      rw [hb] at h
      exact ih hn'.2 (fun j hj => by simpa using hs j (by simp [keys] at hj ⊢; exact .inr hj)) h
theorem lk_append {W V : List (Nat × Value)} {t : Nat} : lk (W ++ V) t = (lk W t).or (lk V t) := by
  induction W with
  | nil => rfl
  | cons p W ih =>
    obtain ⟨k, u⟩ := p
    simp only [List.cons_append, lk]
    cases Nat.beq k t with
    | true => rfl
    | false => exact ih
theorem Fm.over {n ds V a} (F : Fm n ds V a) (W : List (Nat × Value)) (hn : (keys W).Nodup) (hs : ∀ k ∈ keys W, k < n) : Fm n ds (W ++ V) ⟨over a.tmps W, a.defers⟩ := by
  refine ⟨F.df, by rw [show (Act.mk (Ytlnlppmhiobgjaa.over a.tmps W) a.defers).tmps = Ytlnlppmhiobgjaa.over a.tmps W from rfl, over_size, F.sz], fun t v h => ?_⟩
  rw [lk_append] at h
  cases hw : lk W t with
  | some u =>
    rw [hw] at h
    simp only [Option.some_or, Option.some.injEq] at h
    subst h
    exact over_in hn (by rw [F.sz]; exact hs) hw
  | none =>
    rw [hw] at h
    simp only [Option.none_or] at h
    have hx : t ∉ keys W := fun hm => by
      have : ∀ W : List (Nat × Value), t ∈ keys W → lk W t ≠ none := by
        intro W
        induction W with
        | nil => intro h; simp [keys] at h
        | cons p W ih =>
          obtain ⟨k, u⟩ := p
          intro h
          simp only [lk]
          cases hb : Nat.beq k t with
          | true => simp
          | false =>
            simp only [keys, List.map_cons, List.mem_cons] at h
            rcases h with h | h
            · exact absurd h.symm (Nat.ne_of_beq_eq_false hb)
            · exact ih h
      exact this W hm hw
    show (Ytlnlppmhiobgjaa.over a.tmps W)[t]? = some v
    rw [over_out W _ _ hx]
    exact F.at_ t v h

section
variable {P : Program} {ops : Array Oper}
/-- What an operation reads, and what guards it, comes of operations that bind it. -/
def fedTmp (ops : Array Oper) (o : Oper) (t : Nat) : Bool := (List.range ops.size).all fun k => ((ops[k]?).map fun o' => o'.dst != some t || o.after.any fun e => Region.binds .any e && e.on == k).getD true
theorem fedTmp_spec {o : Oper} {t : Nat} (h : fedTmp ops o t = true) : ∀ k o', ops[k]? = some o' → o'.dst = some t → ∃ e ∈ o.after, Region.binds .any e = true ∧ e.on = k := by
  intro k o' hk hd
  have hk' : k < ops.size := (Array.getElem?_eq_some_iff.1 hk).1
  have h3 := List.all_eq_true.1 h k (List.mem_range.2 hk')
  rw [hk] at h3
  simp only [Option.map_some, Option.getD_some, hd, bne_self_eq_false, Bool.false_or] at h3
  obtain ⟨e, he1, he2⟩ := Array.any_eq_true'.1 h3
  simp only [Bool.and_eq_true, beq_iff_eq] at he2
  exact ⟨e, he1, he2.1, he2.2⟩
theorem Agree.slot {a0 : Act} {T : Array Value} {d : Array Bool} {a : Act} (h : Agree ops a0 T d a) {o : Oper} {t : Nat} (hfed : fedTmp ops o t = true)
    (hdep : ∀ e ∈ o.after, Region.binds .any e = true → d.getD e.on false = true) : a.tmps[t]? = T[t]? :=
  h.at_ t (fun k o' hk hd => by
    obtain ⟨e, he, hb, rfl⟩ := fedTmp_spec hfed k o' hk hd
    exact hdep e he hb)

/-- What is done has its predecessors done. -/
def Closed (ops : Array Oper) (d : Array Bool) : Prop := ∀ k o, ops[k]? = some o → d.getD k false = true → ∀ e ∈ o.after, Region.binds .any e = true → d.getD e.on false = true
theorem Closed.none (n : Nat) : Closed ops (Array.replicate n false) := fun k o _ h => by
  rw [Array.getD_eq_getD_getElem?, Array.getElem?_replicate] at h
  split at h <;> cases h
theorem Closed.next {d : Array Bool} (h : Closed ops d) {i : Nat} {o : Oper} (ho : ops[i]? = some o) (hi : i < d.size) (hdep : ∀ e ∈ o.after, Region.binds .any e = true → d.getD e.on false = true) : Closed ops (d.setIfInBounds i true) := fun k o' hk hd e he hb => by
  rw [getD_set hi] at hd ⊢
  split
  · rfl
  · by_cases e1 : k = i
    · subst e1
      rw [ho] at hk; cases hk
      exact hdep e he hb
    · rw [if_neg e1] at hd
      exact h k o' hk hd e he hb
/-- One operation under the ghost numbers β; J what is known of the world; VV what is known of the slots at the end. -/
inductive StOK (P : Program) (ops : Array Oper) (VV : (Nat → Nat) → List (Nat × Value)) (J : Array Bool → (Nat → Nat) → World → Prop) (i : Nat) (o : Oper) : Prop
  | val (hk : ∀ β, knownB (VV β) o = true) (hw : ∀ β, wants ops (VV β) o = some true) (v : (Nat → Nat) → Value) (hv : ∀ β t, o.dst = some t → lk (VV β) t = some (v β))
      (hr : ∀ d β w, Closed ops d → d.getD i true = false → J d β w → (execOp (evV (VV β)) o).run P w = .ok (.value (v β)) w) (hJ : ∀ d β w, d.size = ops.size → J d β w → J (d.setIfInBounds i true) β w)
  | call (hk : ∀ β, knownB (VV β) o = true) (hw : ∀ β, wants ops (VV β) o = some true) (v : (Nat → Nat) → Value) (hv : ∀ β t, o.dst = some t → lk (VV β) t = some (v β)) (f : Nat) (args : (Nat → Nat) → Array Value)
      (hr : ∀ β w, (execOp (evV (VV β)) o).run P w = .ok (.enter f (args β)) w) (hc : ∀ d β w, J d β w → Calls P f (args β) w fun e w' => e = .returned (v β) ∧ J d β w') (hJ : ∀ d β w, d.size = ops.size → J d β w → J (d.setIfInBounds i true) β w)
  | fresh (hk : ∀ β, knownB (VV β) o = true) (hw : ∀ β, wants ops (VV β) o = some true) (v : World → Value) (w' : World → World) (b : World → Nat) (x : Tmp) (hx : o.dst = some x) (hr : ∀ β w, (execOp (evV (VV β)) o).run P w = .ok (.value (v w)) (w' w))
      (hv : ∀ (β : Nat → Nat) (w : World), lk (VV (fun k => if k = i then b w else β k)) x = some (v w)) (ht : ∀ (β : Nat → Nat) (b : Nat) (t : Tmp), x ≠ t → lk (VV (fun k => if k = i then b else β k)) t = lk (VV β) t)
      (hJ : ∀ d β w, d.size = ops.size → d.getD i true = false → J d β w → J (d.setIfInBounds i true) (fun k => if k = i then b w else β k) (w' w))
  | store (hk : ∀ β, knownB (VV β) o = true) (hw : ∀ β, wants ops (VV β) o = some true) (hx : o.dst = none) (hr : ∀ d β w, d.size = ops.size → d.getD i true = false → (∀ e ∈ o.after, Region.binds .any e = true → d.getD e.on false = true) → J d β w → ∃ w', (execOp (evV (VV β)) o).run P w = .ok .skip w' ∧ J (d.setIfInBounds i true) β w')
  | skip (hw : ∀ β, wants ops (VV β) o = some false) (hv : ∀ β t, o.dst = some t → lk (VV β) t = some undef) (hJ : ∀ d β w, d.size = ops.size → J d β w → J (d.setIfInBounds i true) β w)

theorem wants_at {V : List (Nat × Value)} {o : Oper} {b : Bool} {tmps : Array Value} (h : wants ops V o = some b) (ht : ∀ j c t v, o.guard = some (j, c) → (ops[j]?).bind (·.dst) = some t → lk V t = some v → tmps[t]? = some v) : Region.wanted o (yielded ops tmps) = b := by
  unfold wants at h
  unfold Region.wanted
  split at h
  · rename_i hg; rw [hg]; simpa using h
  · rename_i j c hg
    rw [hg]
    dsimp only
    split at h
    · rename_i d hd
      obtain ⟨t, h1, hv⟩ := Option.bind_eq_some_iff.1 hd
      have := ht j c t _ hg h1 hv
      unfold yielded
      rw [h1]
      simp only [Option.bind_some, this]
      simp only [Option.some.injEq] at h
      rw [← h]
      simp
    · rename_i d hd
      obtain ⟨t, h1, hv⟩ := Option.bind_eq_some_iff.1 hd
      have := ht j c t _ hg h1 hv
      unfold yielded
      rw [h1]
      simp only [Option.bind_some, this]
      simp only [Option.some.injEq] at h
      rw [← h]
      simp
    · cases h

end

/-! ### Blocks within a region -/
/-- A new block: made by operation al, written by operation st. -/
structure NBk where
  al : Nat
  st : Nat
  Z : Obj
  R : Obj
/-- A block that was there, written by operation st. -/
structure FBk where
  ad : Nat
  st : Nat
  Z : Obj
  R : Obj
structure JR (X : List Nat) (w0 : World) (lo : Nat) (L : List Blk) (S : List NBk) (F : List FBk) (d : Array Bool) (β : Nat → Nat) (w : World) : Prop where
  kept : Kept X w0 w
  lo_ : lo ≤ w.heap.size
  held : ∀ p ∈ L, w.heap[p.ad]? = some p.ob
  made : ∀ s ∈ S, d.getD s.al false = true → lo ≤ β s.al ∧ w.heap[β s.al]? = some (if d.getD s.st false then s.R else s.Z)
  far : ∀ s ∈ S, ∀ s' ∈ S, s.al ≠ s'.al → d.getD s.al false = true → d.getD s'.al false = true → β s.al ≠ β s'.al
  late : ∀ s ∈ S, d.getD s.al false = false → d.getD s.st false = false
  old : ∀ f ∈ F, w.heap[f.ad]? = some (if d.getD f.st false then f.R else f.Z)
structure FitR (X : List Nat) (w0 : World) (lo : Nat) (L : List Blk) (S : List NBk) (F : List FBk) : Prop where
  b0 : w0.heap.size ≤ lo
  hL : ∀ p ∈ L, p.ad < lo
  hF : ∀ f ∈ F, (w0.heap.size ≤ f.ad ∨ f.ad ∈ X) ∧ f.ad < lo
  fL : ∀ f ∈ F, ∀ p ∈ L, p.ad ≠ f.ad
  ff : ∀ f ∈ F, ∀ f' ∈ F, f.st ≠ f'.st → f.ad ≠ f'.ad
  sst : ∀ s ∈ S, ∀ s' ∈ S, s.al ≠ s'.al → s.st ≠ s'.st
  salst : ∀ s ∈ S, ∀ s' ∈ S, s.al ≠ s'.st
  sf : ∀ s ∈ S, ∀ f ∈ F, s.st ≠ f.st ∧ s.al ≠ f.st
  one : ∀ s ∈ S, ∀ s' ∈ S, s.al = s'.al → s = s'
  onef : ∀ f ∈ F, ∀ f' ∈ F, f.st = f'.st → f = f'
section
variable {X : List Nat} {w0 : World} {lo : Nat} {L : List Blk} {S : List NBk} {F : List FBk} {d : Array Bool} {β : Nat → Nat} {w : World}
theorem JR.call {w' : World} (h : JR X w0 lo L S F d β w) (k : Kept [] w w') : JR X w0 lo L S F d β w' := by
  have keep : ∀ {i : Nat} {o : Obj}, w.heap[i]? = some o → w'.heap[i]? = some o := fun hi => (k.block _ (heap_in hi) (by simp)).trans hi
  exact ⟨h.kept.trans (by simp) k, Nat.le_trans h.lo_ k.size, fun p hp => keep (h.held p hp), fun s hs hd => ⟨(h.made s hs hd).1, keep (h.made s hs hd).2⟩, h.far, h.late, fun f hf => keep (h.old f hf)⟩
theorem getD_off {i j : Nat} (hi : i < d.size) (h : j ≠ i) : (d.setIfInBounds i true).getD j false = d.getD j false := by rw [getD_set hi, if_neg h]
theorem JR.skip {i : Nat} (hi : i < d.size) (hS : ∀ s ∈ S, s.al ≠ i ∧ s.st ≠ i) (hF : ∀ f ∈ F, f.st ≠ i) (h : JR X w0 lo L S F d β w) : JR X w0 lo L S F (d.setIfInBounds i true) β w := by
  refine ⟨h.kept, h.lo_, h.held, fun s hs hd => ?_, fun s hs s' hs' hne h1 h2 => ?_, fun s hs h1 => ?_, fun f hf => ?_⟩
  · rw [getD_off hi (hS s hs).1] at hd
    rw [getD_off hi (hS s hs).2]; exact h.made s hs hd
  · rw [getD_off hi (hS s hs).1] at h1
    rw [getD_off hi (hS s' hs').1] at h2
    exact h.far s hs s' hs' hne h1 h2
  · rw [getD_off hi (hS s hs).1] at h1
    rw [getD_off hi (hS s hs).2]; exact h.late s hs h1
  · rw [getD_off hi (hF f hf)]; exact h.old f hf
theorem JR.alloc (fit : FitR X w0 lo L S F) {s : NBk} (hs : s ∈ S) (hi : s.al < d.size) (hf : d.getD s.al true = false) (h : JR X w0 lo L S F d β w) :
    JR X w0 lo L S F (d.setIfInBounds s.al true) (fun k => if k = s.al then w.heap.size else β k) (w.alloc s.Z) := by
  have keep : ∀ {k : Nat} {o : Obj}, w.heap[k]? = some o → (w.alloc s.Z).heap[k]? = some o := fun hk => (Below.heap_alloc _ _ _ (heap_in hk)).trans hk
  have hf' : d.getD s.al false = false := by
    rw [Array.getD_eq_getD_getElem?] at hf ⊢
    cases hq : d[s.al]? with
    | none => rfl
    | some v => rw [hq] at hf; exact hf
  refine ⟨h.kept.trans (by simp) (Kept.alloc w s.Z), Nat.le_trans h.lo_ (by simp), fun p hp => keep (h.held p hp), fun t ht hd => ?_, fun t ht t' ht' hne h1 h2 => ?_, fun t ht h1 => ?_, fun f hff => ?_⟩
  · rw [getD_off hi (fun e => fit.salst s hs t ht e.symm)]
    by_cases e : t.al = s.al
    · obtain rfl := fit.one t ht s hs e
      simp only [if_true, h.late t ht hf']
      exact ⟨h.lo_, heap_alloc_new _ _⟩
    · rw [getD_off hi e] at hd
      simp only [if_neg e]
      exact ⟨(h.made t ht hd).1, keep (h.made t ht hd).2⟩
  · by_cases e : t.al = s.al
    · rw [if_pos e, if_neg (fun e' => hne (e.trans e'.symm))]
      rw [getD_off hi (fun e' => hne (e.trans e'.symm))] at h2
      have := heap_in (h.made t' ht' h2).2
      omega
    · rw [if_neg e]
      rw [getD_off hi e] at h1
      by_cases e' : t'.al = s.al
      · rw [if_pos e']
        have := heap_in (h.made t ht h1).2
        omega
      · rw [if_neg e']
        rw [getD_off hi e'] at h2
        exact h.far t ht t' ht' hne h1 h2
  · by_cases e : t.al = s.al
    · rw [e, getD_set hi, if_pos rfl] at h1; cases h1
    · rw [getD_off hi e] at h1
      rw [getD_off hi (fun e => fit.salst s hs t ht e.symm)]; exact h.late t ht h1
  · rw [getD_off hi (fun e => (fit.sf s hs f hff).2 e.symm)]; exact keep (h.old f hff)
theorem JR.store (fit : FitR X w0 lo L S F) {s : NBk} (hs : s ∈ S) (hi : s.st < d.size) (hd : d.getD s.al false = true) {w' : World} (hK : Kept [β s.al] w w') (hn : w'.heap[β s.al]? = some s.R) (h : JR X w0 lo L S F d β w) : JR X w0 lo L S F (d.setIfInBounds s.st true) β w' := by
  obtain ⟨hb, hrow⟩ := h.made s hs hd
  have far : ∀ {k : Nat} {o : Obj}, k ≠ β s.al → w.heap[k]? = some o → w'.heap[k]? = some o := fun hne hk => (hK.block _ (heap_in hk) (by simpa using hne)).trans hk
  refine ⟨h.kept.trans (fun y hy => by simp only [List.mem_singleton] at hy; subst hy; exact .inl (Nat.le_trans fit.b0 hb)) hK, Nat.le_trans h.lo_ hK.size, fun p hp => far ?_ (h.held p hp), fun t ht h1 => ?_, fun t ht t' ht' hne h1 h2 => ?_, fun t ht h1 => ?_, fun f hff => ?_⟩
  · have := fit.hL p hp; omega
  · rw [getD_off hi (fit.salst t ht s hs)] at h1
    by_cases e : t.al = s.al
    · obtain rfl := fit.one t ht s hs e
      refine ⟨hb, ?_⟩
      rw [getD_set hi, if_pos rfl]
      exact hn
    · rw [getD_off hi (fit.sst t ht s hs e)]
      exact ⟨(h.made t ht h1).1, far (h.far t ht s hs e h1 hd) (h.made t ht h1).2⟩
  · rw [getD_off hi (fit.salst t ht s hs)] at h1
    rw [getD_off hi (fit.salst t' ht' s hs)] at h2
    exact h.far t ht t' ht' hne h1 h2
  · rw [getD_off hi (fit.salst t ht s hs)] at h1
    by_cases e : t.al = s.al
    · rw [e, hd] at h1; cases h1
    · rw [getD_off hi (fit.sst t ht s hs e)]; exact h.late t ht h1
  · rw [getD_off hi (fun e => (fit.sf s hs f hff).1 e.symm)]
    have := (fit.hF f hff).2
    exact far (by omega) (h.old f hff)
end

theorem getD_tf {d : Array Bool} {i : Nat} (h : d.getD i true = false) : d.getD i false = false := by
  rw [Array.getD_eq_getD_getElem?] at h ⊢
  cases hq : d[i]? with
  | none => rfl
  | some v => rw [hq] at h; exact h
/-! ### Their operations -/
section
variable {P : Program} {ops : Array Oper} {VV : (Nat → Nat) → List (Nat × Value)} {i : Nat} {o : Oper} {X : List Nat} {w0 : World} {lo : Nat} {L : List Blk} {S : List NBk} {F : List FBk}
end

/-- All operations, from number k on. -/
def AllSt (P : Program) (ops : Array Oper) (VV : (Nat → Nat) → List (Nat × Value)) (J : Array Bool → (Nat → Nat) → World → Prop) : Nat → List Oper → Prop
  | _, [] => True
  | k, o :: l => StOK P ops VV J k o ∧ AllSt P ops VV J (k + 1) l
theorem AllSt.at_ {P : Program} {ops : Array Oper} {VV : (Nat → Nat) → List (Nat × Value)} {J : Array Bool → (Nat → Nat) → World → Prop} : ∀ {l : List Oper} {k : Nat}, AllSt P ops VV J k l → ∀ i o, l[i]? = some o → StOK P ops VV J (k + i) o
  | [], _, _, i, o, h => by simp at h
  | o' :: l, k, hA, 0, o, h => by
    simp only [List.getElem?_cons_zero, Option.some.injEq] at h
    subst h; exact hA.1
  | o' :: l, k, hA, i + 1, o, h => by
    simp only [List.getElem?_cons_succ] at h
    have := AllSt.at_ hA.2 i o h
    rwa [Nat.add_assoc, Nat.add_comm 1 i] at this
/-- Some of the blocks, in another order. -/
theorem Hp.pick {X w0 L w} (H : Hp X w0 L w) (ks : List Nat) (hn : nodupB ks = true) (L' : List Blk) (hL : ks.filterMap (fun k => L[k]?) = L') : Hp X w0 L' w := by
  subst hL
  have mem : ∀ p ∈ ks.filterMap (fun k => L[k]?), p ∈ L := fun p hp => by
    obtain ⟨k, _, hk⟩ := List.mem_filterMap.1 hp
    exact List.mem_of_getElem? hk
  refine ⟨H.kept, fun p hp => H.held p (mem p hp), fun p hp => H.own p (mem p hp), ?_⟩
  have hnd := nodupB_spec hn
  clear hn
  induction ks with
  | nil => exact List.Pairwise.nil
  | cons k ks ih =>
    obtain ⟨h1, h2⟩ := List.nodup_cons.1 hnd
    have ih' := ih (fun p hp => by
      obtain ⟨k, _, hk⟩ := List.mem_filterMap.1 hp
      exact List.mem_of_getElem? hk) h2
    rw [List.filterMap_cons]
    split
    · exact ih'
    · rename_i p hp
      refine List.pairwise_cons.2 ⟨fun q hq => ?_, ih'⟩
      obtain ⟨j, hj, hq⟩ := List.mem_filterMap.1 hq
      have hne : k ≠ j := fun e => h1 (e ▸ hj)
      obtain ⟨hk1, hk2⟩ := List.getElem?_eq_some_iff.1 hp
      obtain ⟨hj1, hj2⟩ := List.getElem?_eq_some_iff.1 hq
      have hp := List.pairwise_iff_getElem.1 H.far
      rcases Nat.lt_or_gt_of_ne hne with h | h
      · have := hp k j hk1 hj1 h; rw [hk2, hj2] at this; exact this
      · have := hp j k hj1 hk1 h; rw [hk2, hj2] at this; exact fun e => this e.symm
def idxB (S : List NBk) (F : List FBk) : Bool := nodupB (S.map (·.al) ++ (S.map (·.st) ++ F.map (·.st)))
theorem inj_of_nodup {α : Type} {f : α → Nat} : ∀ {l : List α}, (l.map f).Nodup → ∀ a ∈ l, ∀ b ∈ l, f a = f b → a = b
  | [], _, a, ha, _, _, _ => by simp at ha
  | c :: l, h, a, ha, b, hb, e => by
    obtain ⟨h1, h2⟩ := List.nodup_cons.1 h
    rcases List.mem_cons.1 ha with ea | ma
    · rcases List.mem_cons.1 hb with eb | mb
      · rw [ea, eb]
      · exact absurd (show f c ∈ l.map f from (ea ▸ e) ▸ List.mem_map_of_mem mb) h1
    · rcases List.mem_cons.1 hb with eb | mb
      · exact absurd (show f c ∈ l.map f from (eb ▸ e) ▸ List.mem_map_of_mem ma) h1
      · exact inj_of_nodup h2 a ma b mb e
abbrev blkZ (f : FBk) : Blk := ⟨true, f.ad, f.Z⟩
theorem Hp.fit {X w0 w} {S : List NBk} {F : List FBk} {L : List Blk} (H : Hp X w0 (F.map blkZ ++ L) w) (hi : idxB S F = true) : FitR X w0 w.heap.size L S F := by
  have hn := nodupB_spec hi
  obtain ⟨n1, n2, n3⟩ := List.nodup_append.1 hn
  obtain ⟨n4, n5, n6⟩ := List.nodup_append.1 n2
  obtain ⟨p1, p2, p3⟩ := List.pairwise_append.1 H.far
  have mS : ∀ f ∈ F, blkZ f ∈ F.map blkZ ++ L := fun f hf => List.mem_append_left _ (List.mem_map_of_mem hf)
  refine ⟨H.kept.size, fun p hp => heap_in (H.held p (List.mem_append_right _ hp)), fun f hf => ⟨H.own _ (mS f hf) rfl, heap_in (H.held _ (mS f hf))⟩, fun f hf p hp => fun e => p3 (blkZ f) (List.mem_map_of_mem hf) p hp e.symm, fun f hf f' hf' hne => ?_,
    fun s hs s' hs' hne e => hne ?_, fun s hs s' hs' e => n3 s.al (List.mem_map_of_mem hs) s'.st (List.mem_append_left _ (List.mem_map_of_mem hs')) e, fun s hs f hf => ⟨fun e => n6 s.st (List.mem_map_of_mem hs) f.st (List.mem_map_of_mem hf) e, fun e => n3 s.al (List.mem_map_of_mem hs) f.st (List.mem_append_right _ (List.mem_map_of_mem hf)) e⟩,
    fun s hs s' hs' e => inj_of_nodup n1 s hs s' hs' e, fun f hf f' hf' e => inj_of_nodup n5 f hf f' hf' e⟩
  · rw [List.pairwise_map] at p1
    have hff : f ≠ f' := fun e => hne (by rw [e])
    obtain ⟨j, hj, rfl⟩ := List.mem_iff_getElem.1 hf
    obtain ⟨k, hk, rfl⟩ := List.mem_iff_getElem.1 hf'
    have hp := List.pairwise_iff_getElem.1 p1
    rcases Nat.lt_trichotomy j k with h | h | h
    · exact hp j k hj hk h
    · subst h; exact absurd rfl hff
    · exact fun e => hp k j hk hj h e.symm
  · rw [inj_of_nodup n4 s hs s' hs' e]
end Go.Proofs.Ytlnlppmhiobgjaa
