/- H1 -/
import Derived.Test.YtdejhenkdbjakaaDoorQM02
import Derived.Test.YtdejhenkdbjakaaDoorQM03
set_option linter.unusedVariables false
set_option linter.unusedSimpArgs false
set_option maxRecDepth 100000
set_option maxHeartbeats 4000000
namespace Go.Proofs.YtdejhenkdbjakaaDoor
open Go Go.RowKit

/-! ### Frames -/
def nodupB : List Nat → Bool
  | [] => true
  | k :: l => l.all (fun j => !(Nat.beq k j)) && nodupB l
theorem nodupB_spec : ∀ {l : List Nat}, nodupB l = true → l.Nodup
  | [], _ => List.nodup_nil
  | k :: l, h => by
    simp only [nodupB, Bool.and_eq_true, List.all_eq_true, Bool.not_eq_true'] at h
    exact List.nodup_cons.2 ⟨fun hm => Nat.ne_of_beq_eq_false (h.1 k hm) rfl, nodupB_spec h.2⟩
def keys (W : List (Nat × Value)) : List Nat := W.map (·.1)
theorem over_out (W : List (Nat × Value)) : ∀ (t : Array Value) (x : Nat), x ∉ keys W → (over t W)[x]? = t[x]? := by
  induction W with
  | nil => intro t x _; rfl
  | cons p W ih =>
    intro t x hx
    simp only [keys, List.map_cons, List.mem_cons, not_or] at hx
    show (over (t.setIfInBounds p.1 p.2) W)[x]? = _
    rw [ih _ x hx.2, Array.getElem?_setIfInBounds, if_neg (fun e => hx.1 e.symm)]
theorem over_in {W : List (Nat × Value)} : ∀ {T : Array Value} {t : Nat} {v : Value}, (keys W).Nodup → (∀ k ∈ keys W, k < T.size) → lk W t = some v → (over T W)[t]? = some v := by
  induction W with
  | nil => intro T t v _ _ h; simp [lk] at h
  | cons p W ih =>
    obtain ⟨k, u⟩ := p
    intro T t v hn hs h
    have hn' := List.nodup_cons.1 hn
    show (over (T.setIfInBounds k u) W)[t]? = some v
    simp only [lk] at h
    cases hb : Nat.beq k t with
    | true =>
      rw [hb] at h
      simp only [cond_true, Option.some.injEq] at h
      have e := Nat.eq_of_beq_eq_true hb
      subst e
      rw [over_out W _ _ hn'.1, Array.getElem?_setIfInBounds, if_pos rfl, if_pos (hs k (by simp [keys])), h]
    | false =>
      rw [hb] at h
      exact ih hn'.2 (fun j hj => by simpa using hs j (by simp [keys] at hj ⊢; exact .inr hj)) h
theorem lk_append {W V : List (Nat × Value)} {t : Nat} : lk (W ++ V) t = (lk W t).or (lk V t) := by
  induction W with
  | nil => rfl
  | cons p W ih =>
    obtain ⟨k, u⟩ := p
    simp only [List.cons_append, lk]
    cases Nat.beq k t with
    | true => rfl
    | false => exact ih
theorem Fm.over {n ds V a} (F : Fm n ds V a) (W : List (Nat × Value)) (hn : (keys W).Nodup) (hs : ∀ k ∈ keys W, k < n) : Fm n ds (W ++ V) ⟨over a.tmps W, a.defers⟩ := by
  refine ⟨F.df, by rw [show (Act.mk (YtdejhenkdbjakaaDoor.over a.tmps W) a.defers).tmps = YtdejhenkdbjakaaDoor.over a.tmps W from rfl, over_size, F.sz], fun t v h => ?_⟩
  rw [lk_append] at h
  cases hw : lk W t with
  | some u =>
    rw [hw] at h
    simp only [Option.some_or, Option.some.injEq] at h
    subst h
    exact over_in hn (by rw [F.sz]; exact hs) hw
  | none =>
    rw [hw] at h
    simp only [Option.none_or] at h
    have hx : t ∉ keys W := fun hm => by
      have : ∀ W : List (Nat × Value), t ∈ keys W → lk W t ≠ none := by
        intro W
        induction W with
        | nil => intro h; simp [keys] at h
        | cons p W ih =>
          obtain ⟨k, u⟩ := p
          intro h
          simp only [lk]
          cases hb : Nat.beq k t with
          | true => simp
          | false =>
            simp only [keys, List.map_cons, List.mem_cons] at h
            rcases h with h | h
            · exact absurd h.symm (Nat.ne_of_beq_eq_false hb)
            · exact ih h
      exact this W hm hw
    show (YtdejhenkdbjakaaDoor.over a.tmps W)[t]? = some v
    rw [over_out W _ _ hx]
    exact F.at_ t v h

section
variable {P : Program} {ops : Array Oper}
def fedTmp (ops : Array Oper) (o : Oper) (t : Nat) : Bool := (List.range ops.size).all fun k => ((ops[k]?).map fun o' => o'.dst != some t || o.after.any fun e => Region.binds .any e && e.on == k).getD true
theorem fedTmp_spec {o : Oper} {t : Nat} (h : fedTmp ops o t = true) : ∀ k o', ops[k]? = some o' → o'.dst = some t → ∃ e ∈ o.after, Region.binds .any e = true ∧ e.on = k := by
  intro k o' hk hd
  have hk' : k < ops.size := (Array.getElem?_eq_some_iff.1 hk).1
  have h3 := List.all_eq_true.1 h k (List.mem_range.2 hk')
  rw [hk] at h3
  simp only [Option.map_some, Option.getD_some, hd, bne_self_eq_false, Bool.false_or] at h3
  obtain ⟨e, he1, he2⟩ := Array.any_eq_true'.1 h3
  simp only [Bool.and_eq_true, beq_iff_eq] at he2
  exact ⟨e, he1, he2.1, he2.2⟩
theorem Agree.slot {a0 : Act} {T : Array Value} {d : Array Bool} {a : Act} (h : Agree ops a0 T d a) {o : Oper} {t : Nat} (hfed : fedTmp ops o t = true)
    (hdep : ∀ e ∈ o.after, Region.binds .any e = true → d.getD e.on false = true) : a.tmps[t]? = T[t]? :=
  h.at_ t (fun k o' hk hd => by
    obtain ⟨e, he, hb, rfl⟩ := fedTmp_spec hfed k o' hk hd
    exact hdep e he hb)

def Closed (ops : Array Oper) (d : Array Bool) : Prop := ∀ k o, ops[k]? = some o → d.getD k false = true → ∀ e ∈ o.after, Region.binds .any e = true → d.getD e.on false = true
theorem Closed.none (n : Nat) : Closed ops (Array.replicate n false) := fun k o _ h => by
  rw [Array.getD_eq_getD_getElem?, Array.getElem?_replicate] at h
  split at h <;> cases h
theorem Closed.next {d : Array Bool} (h : Closed ops d) {i : Nat} {o : Oper} (ho : ops[i]? = some o) (hi : i < d.size) (hdep : ∀ e ∈ o.after, Region.binds .any e = true → d.getD e.on false = true) : Closed ops (d.setIfInBounds i true) := fun k o' hk hd e he hb => by
  rw [getD_set hi] at hd ⊢
  split
  · rfl
  · by_cases e1 : k = i
    · subst e1
      rw [ho] at hk; cases hk
      exact hdep e he hb
    · rw [if_neg e1] at hd
      exact h k o' hk hd e he hb
/-- One operation under the ghost numbers β; J what is known of the world; VV what is known of the slots at the end. -/
inductive StOK (P : Program) (ops : Array Oper) (VV : (Nat → Nat) → List (Nat × Value)) (J : Array Bool → (Nat → Nat) → World → Prop) (i : Nat) (o : Oper) : Prop
  | val (hk : ∀ β, knownB (VV β) o = true) (hw : ∀ β, wants ops (VV β) o = some true) (v : (Nat → Nat) → Value) (hv : ∀ β t, o.dst = some t → lk (VV β) t = some (v β))
      (hr : ∀ d β w, Closed ops d → d.getD i true = false → J d β w → (execOp (evV (VV β)) o).run P w = .ok (.value (v β)) w) (hJ : ∀ d β w, d.size = ops.size → J d β w → J (d.setIfInBounds i true) β w)
  | call (hk : ∀ β, knownB (VV β) o = true) (hw : ∀ β, wants ops (VV β) o = some true) (v : (Nat → Nat) → Value) (hv : ∀ β t, o.dst = some t → lk (VV β) t = some (v β)) (f : Nat) (args : (Nat → Nat) → Array Value)
      (hr : ∀ β w, (execOp (evV (VV β)) o).run P w = .ok (.enter f (args β)) w) (hc : ∀ d β w, J d β w → Calls P f (args β) w fun e w' => e = .returned (v β) ∧ J d β w') (hJ : ∀ d β w, d.size = ops.size → J d β w → J (d.setIfInBounds i true) β w)
  | fresh (hk : ∀ β, knownB (VV β) o = true) (hw : ∀ β, wants ops (VV β) o = some true) (v : World → Value) (w' : World → World) (b : World → Nat) (x : Tmp) (hx : o.dst = some x) (hr : ∀ β w, (execOp (evV (VV β)) o).run P w = .ok (.value (v w)) (w' w))
      (hv : ∀ (β : Nat → Nat) (w : World), lk (VV (fun k => if k = i then b w else β k)) x = some (v w)) (ht : ∀ (β : Nat → Nat) (b : Nat) (t : Tmp), x ≠ t → lk (VV (fun k => if k = i then b else β k)) t = lk (VV β) t)
      (hJ : ∀ d β w, d.size = ops.size → d.getD i true = false → J d β w → J (d.setIfInBounds i true) (fun k => if k = i then b w else β k) (w' w))
  | store (hk : ∀ β, knownB (VV β) o = true) (hw : ∀ β, wants ops (VV β) o = some true) (hx : o.dst = none) (hr : ∀ d β w, d.size = ops.size → d.getD i true = false → (∀ e ∈ o.after, Region.binds .any e = true → d.getD e.on false = true) → J d β w → ∃ w', (execOp (evV (VV β)) o).run P w = .ok .skip w' ∧ J (d.setIfInBounds i true) β w')
  | skip (hw : ∀ β, wants ops (VV β) o = some false) (hv : ∀ β t, o.dst = some t → lk (VV β) t = some undef) (hJ : ∀ d β w, d.size = ops.size → J d β w → J (d.setIfInBounds i true) β w)

theorem wants_at {V : List (Nat × Value)} {o : Oper} {b : Bool} {tmps : Array Value} (h : wants ops V o = some b) (ht : ∀ j c t v, o.guard = some (j, c) → (ops[j]?).bind (·.dst) = some t → lk V t = some v → tmps[t]? = some v) : Region.wanted o (yielded ops tmps) = b := by
  unfold wants at h
  unfold Region.wanted
  split at h
  · rename_i hg; rw [hg]; simpa using h
  · rename_i j c hg
    rw [hg]
    dsimp only
    split at h
    · rename_i d hd
      obtain ⟨t, h1, hv⟩ := Option.bind_eq_some_iff.1 hd
      have := ht j c t _ hg h1 hv
      unfold yielded
      rw [h1]
      simp only [Option.bind_some, this]
      simp only [Option.some.injEq] at h
      rw [← h]
      simp
    · cases h

end

/-! ### Blocks within a region -/
/-- A new block: made by operation al, written by operation st. -/
structure NBk where
  al : Nat
  st : Nat
  Z : Obj
  R : Obj
/-- A block that was there, written by operation st. -/
structure FBk where
  ad : Nat
  st : Nat
  Z : Obj
  R : Obj
structure JR (X : List Nat) (w0 : World) (lo : Nat) (L : List Blk) (S : List NBk) (F : List FBk) (d : Array Bool) (β : Nat → Nat) (w : World) : Prop where
  kept : Kept X w0 w
  lo_ : lo ≤ w.heap.size
  held : ∀ p ∈ L, w.heap[p.ad]? = some p.ob
  made : ∀ s ∈ S, d.getD s.al false = true → lo ≤ β s.al ∧ w.heap[β s.al]? = some (if d.getD s.st false then s.R else s.Z)
  far : ∀ s ∈ S, ∀ s' ∈ S, s.al ≠ s'.al → d.getD s.al false = true → d.getD s'.al false = true → β s.al ≠ β s'.al
  late : ∀ s ∈ S, d.getD s.al false = false → d.getD s.st false = false
  old : ∀ f ∈ F, w.heap[f.ad]? = some (if d.getD f.st false then f.R else f.Z)
structure FitR (X : List Nat) (w0 : World) (lo : Nat) (L : List Blk) (S : List NBk) (F : List FBk) : Prop where
  b0 : w0.heap.size ≤ lo
  hL : ∀ p ∈ L, p.ad < lo
  hF : ∀ f ∈ F, (w0.heap.size ≤ f.ad ∨ f.ad ∈ X) ∧ f.ad < lo
  fL : ∀ f ∈ F, ∀ p ∈ L, p.ad ≠ f.ad
  ff : ∀ f ∈ F, ∀ f' ∈ F, f.st ≠ f'.st → f.ad ≠ f'.ad
  sst : ∀ s ∈ S, ∀ s' ∈ S, s.al ≠ s'.al → s.st ≠ s'.st
  salst : ∀ s ∈ S, ∀ s' ∈ S, s.al ≠ s'.st
  sf : ∀ s ∈ S, ∀ f ∈ F, s.st ≠ f.st ∧ s.al ≠ f.st
  one : ∀ s ∈ S, ∀ s' ∈ S, s.al = s'.al → s = s'
  onef : ∀ f ∈ F, ∀ f' ∈ F, f.st = f'.st → f = f'
section
variable {X : List Nat} {w0 : World} {lo : Nat} {L : List Blk} {S : List NBk} {F : List FBk} {d : Array Bool} {β : Nat → Nat} {w : World}
end

theorem getD_tf {d : Array Bool} {i : Nat} (h : d.getD i true = false) : d.getD i false = false := by
  rw [Array.getD_eq_getD_getElem?] at h ⊢
  cases hq : d[i]? with
  | none => rfl
  | some v => rw [hq] at h; exact h
/-! ### Their operations -/
section
variable {P : Program} {ops : Array Oper} {VV : (Nat → Nat) → List (Nat × Value)} {i : Nat} {o : Oper} {X : List Nat} {w0 : World} {lo : Nat} {L : List Blk} {S : List NBk} {F : List FBk}
end

theorem Hp.pick {X w0 L w} (H : Hp X w0 L w) (ks : List Nat) (hn : nodupB ks = true) (L' : List Blk) (hL : ks.filterMap (fun k => L[k]?) = L') : Hp X w0 L' w := by
  subst hL
  have mem : ∀ p ∈ ks.filterMap (fun k => L[k]?), p ∈ L := fun p hp => by
    obtain ⟨k, _, hk⟩ := List.mem_filterMap.1 hp
    exact List.mem_of_getElem? hk
  refine ⟨H.kept, fun p hp => H.held p (mem p hp), fun p hp => H.own p (mem p hp), ?_⟩
  have hnd := nodupB_spec hn
  clear hn
  induction ks with
  | nil => exact List.Pairwise.nil
  | cons k ks ih =>
    obtain ⟨h1, h2⟩ := List.nodup_cons.1 hnd
    have ih' := ih (fun p hp => by
      obtain ⟨k, _, hk⟩ := List.mem_filterMap.1 hp
      exact List.mem_of_getElem? hk) h2
    rw [List.filterMap_cons]
    split
    · exact ih'
    · rename_i p hp
      refine List.pairwise_cons.2 ⟨fun q hq => ?_, ih'⟩
      obtain ⟨j, hj, hq⟩ := List.mem_filterMap.1 hq
      have hne : k ≠ j := fun e => h1 (e ▸ hj)
      obtain ⟨hk1, hk2⟩ := List.getElem?_eq_some_iff.1 hp
      obtain ⟨hj1, hj2⟩ := List.getElem?_eq_some_iff.1 hq
      have hp := List.pairwise_iff_getElem.1 H.far
      rcases Nat.lt_or_gt_of_ne hne with h | h
      · have := hp k j hk1 hj1 h; rw [hk2, hj2] at this; exact this
      · have := hp j k hj1 hk1 h; rw [hk2, hj2] at this; exact fun e => this e.symm
end Go.Proofs.YtdejhenkdbjakaaDoor
