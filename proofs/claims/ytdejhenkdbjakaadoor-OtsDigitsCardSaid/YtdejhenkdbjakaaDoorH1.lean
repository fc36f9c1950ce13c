/- A walk by rules: regions that draw their order, where one order serves for all. -/
import Derived.Test.YtdejhenkdbjakaaDoorH0
import Derived.Test.YtdejhenkdbjakaaDoorI0
set_option linter.unusedVariables false
set_option linter.unusedSimpArgs false
namespace Go.Proofs.YtdejhenkdbjakaaDoor
open Go Go.RowKit

/-! ### Frames -/
def nodupB : List Nat → Bool
  | [] => true
  | k :: l => l.all (fun j => !(Nat.beq k j)) && nodupB l
theorem nodupB_spec : ∀ {l : List Nat}, nodupB l = true → l.Nodup
  | [], _ => List.nodup_nil
  | k :: l, h => by
    simp only [nodupB, Bool.and_eq_true, List.all_eq_true, Bool.not_eq_true'] at h
    exact List.nodup_cons.2 ⟨fun hm => Nat.ne_of_beq_eq_false (h.1 k hm) rfl, nodupB_spec h.2⟩
def keys (W : List (Nat × Value)) : List Nat := W.map (·.1)
theorem lk_none {W : List (Nat × Value)} {t : Nat} (h : t ∉ keys W) : lk W t = none := by
  induction W with
  | nil => rfl
  | cons p W ih =>
    obtain ⟨k, v⟩ := p
    simp only [keys, List.map_cons, List.mem_cons, not_or] at h
    have hb : Nat.beq k t = false := by
      cases hq : Nat.beq k t with
      | false => rfl
      | true => exact absurd (Nat.eq_of_beq_eq_true hq).symm h.1
    simp only [lk, hb, cond_false]
    exact ih h.2
theorem over_out (W : List (Nat × Value)) : ∀ (t : Array Value) (x : Nat), x ∉ keys W → (over t W)[x]? = t[x]? := by
  induction W with
  | nil => intro t x _; rfl
  | cons p W ih =>
    intro t x hx
    simp only [keys, List.map_cons, List.mem_cons, not_or] at hx
    show (over (t.setIfInBounds p.1 p.2) W)[x]? = _
    rw [ih _ x hx.2, Array.getElem?_setIfInBounds, if_neg (fun e => hx.1 e.symm)]
theorem over_in {W : List (Nat × Value)} : ∀ {T : Array Value} {t : Nat} {v : Value}, (keys W).Nodup → (∀ k ∈ keys W, k < T.size) → lk W t = some v → (over T W)[t]? = some v := by
  induction W with
  | nil => intro T t v _ _ h; simp [lk] at h
  | cons p W ih =>
    obtain ⟨k, u⟩ := p
    intro T t v hn hs h
    have hn' := List.nodup_cons.1 hn
    show (over (T.setIfInBounds k u) W)[t]? = some v
    simp only [lk] at h
    cases hb : Nat.beq k t with
    | true =>
      rw [hb] at h
      simp only [cond_true, Option.some.injEq] at h
      have e := Nat.eq_of_beq_eq_true hb
      subst e
      rw [over_out W _ _ hn'.1, Array.getElem?_setIfInBounds, if_pos rfl, if_pos (hs k (by simp [keys])), h]
    | false =>
      rw [hb] at h
      exact ih hn'.2 (fun j hj => by simpa using hs j (by simp [keys] at hj ⊢; exact .inr hj)) h
theorem lk_append {W V : List (Nat × Value)} {t : Nat} : lk (W ++ V) t = (lk W t).or (lk V t) := by
  induction W with
  | nil => rfl
  | cons p W ih =>
    obtain ⟨k, u⟩ := p
    simp only [List.cons_append, lk]
    cases Nat.beq k t with
    | true => rfl
    | false => exact ih
theorem Fm.over {n ds V a} (F : Fm n ds V a) (W : List (Nat × Value)) (hn : (keys W).Nodup) (hs : ∀ k ∈ keys W, k < n) : Fm n ds (W ++ V) ⟨over a.tmps W, a.defers⟩ := by
  refine ⟨F.df, by rw [show (Act.mk (YtdejhenkdbjakaaDoor.over a.tmps W) a.defers).tmps = YtdejhenkdbjakaaDoor.over a.tmps W from rfl, over_size, F.sz], fun t v h => ?_⟩
  rw [lk_append] at h
  cases hw : lk W t with
  | some u =>
    rw [hw] at h
    simp only [Option.some_or, Option.some.injEq] at h
    subst h
    exact over_in hn (by rw [F.sz]; exact hs) hw
  | none =>
    rw [hw] at h
    simp only [Option.none_or] at h
    have hx : t ∉ keys W := fun hm => by
      have : ∀ W : List (Nat × Value), t ∈ keys W → lk W t ≠ none := by
        intro W
        induction W with
        | nil => intro h; simp [keys] at h
        | cons p W ih =>
          obtain ⟨k, u⟩ := p
          intro h
          simp only [lk]
          cases hb : Nat.beq k t with
          | true => simp
          | false =>
            simp only [keys, List.map_cons, List.mem_cons] at h
            rcases h with h | h
            · exact absurd h.symm (Nat.ne_of_beq_eq_false hb)
            · exact ih h
      exact this W hm hw
    show (YtdejhenkdbjakaaDoor.over a.tmps W)[t]? = some v
    rw [over_out W _ _ hx]
    exact F.at_ t v h

section
variable {P : Program} {ops : Array Oper}
/-- What an operation reads, and what guards it, comes of operations that bind it. -/
def fedTmp (ops : Array Oper) (o : Oper) (t : Nat) : Bool := (List.range ops.size).all fun k => ((ops[k]?).map fun o' => o'.dst != some t || o.after.any fun e => Region.binds .any e && e.on == k).getD true
def opsFedG (ops : Array Oper) : Bool := (List.range ops.size).all fun i => ((ops[i]?).map fun o => (match o.guard with
    | none => true
    | some (j, _) => match (ops[j]?).bind (·.dst) with
      | some t => fedTmp ops o t
      | none => true) && o.op.operands.all fun x =>
  match x with
  | .tmp t => fedTmp ops o t
  | _ => true).getD true
theorem fedTmp_spec {o : Oper} {t : Nat} (h : fedTmp ops o t = true) : ∀ k o', ops[k]? = some o' → o'.dst = some t → ∃ e ∈ o.after, Region.binds .any e = true ∧ e.on = k := by
  intro k o' hk hd
  have hk' : k < ops.size := (Array.getElem?_eq_some_iff.1 hk).1
  have h3 := List.all_eq_true.1 h k (List.mem_range.2 hk')
  rw [hk] at h3
  simp only [Option.map_some, Option.getD_some, hd, bne_self_eq_false, Bool.false_or] at h3
  obtain ⟨e, he1, he2⟩ := Array.any_eq_true'.1 h3
  simp only [Bool.and_eq_true, beq_iff_eq] at he2
  exact ⟨e, he1, he2.1, he2.2⟩
theorem opsFedG_spec (h : opsFedG ops = true) {i : Nat} {o : Oper} (ho : ops[i]? = some o) : (∀ j b t, o.guard = some (j, b) → (ops[j]?).bind (·.dst) = some t → fedTmp ops o t = true) ∧ ∀ t, .tmp t ∈ o.op.operands → fedTmp ops o t = true := by
  have hi : i < ops.size := (Array.getElem?_eq_some_iff.1 ho).1
  have h1 := List.all_eq_true.1 h i (List.mem_range.2 hi)
  rw [ho] at h1
  simp only [Option.map_some, Option.getD_some, Bool.and_eq_true] at h1
  refine ⟨fun j b t hg ht => ?_, fun t ht => ?_⟩
  · have := h1.1
    rw [hg] at this
    simpa [ht] using this
  · obtain ⟨j, hj, he⟩ := Array.mem_iff_getElem.1 ht
    have h2 := Array.all_eq_true.1 h1.2 j hj
    rw [he] at h2
    exact h2
theorem Agree.slot {a0 : Act} {T : Array Value} {d : Array Bool} {a : Act} (h : Agree ops a0 T d a) {o : Oper} {t : Nat} (hfed : fedTmp ops o t = true)
    (hdep : ∀ e ∈ o.after, Region.binds .any e = true → d.getD e.on false = true) : a.tmps[t]? = T[t]? :=
  h.at_ t (fun k o' hk hd => by
    obtain ⟨e, he, hb, rfl⟩ := fedTmp_spec hfed k o' hk hd
    exact hdep e he hb)

/-- What is done has its predecessors done. -/
def Closed (ops : Array Oper) (d : Array Bool) : Prop := ∀ k o, ops[k]? = some o → d.getD k false = true → ∀ e ∈ o.after, Region.binds .any e = true → d.getD e.on false = true
theorem Closed.none (n : Nat) : Closed ops (Array.replicate n false) := fun k o _ h => by
  rw [Array.getD_eq_getD_getElem?, Array.getElem?_replicate] at h
  split at h <;> cases h
theorem Closed.next {d : Array Bool} (h : Closed ops d) {i : Nat} {o : Oper} (ho : ops[i]? = some o) (hi : i < d.size) (hdep : ∀ e ∈ o.after, Region.binds .any e = true → d.getD e.on false = true) : Closed ops (d.setIfInBounds i true) := fun k o' hk hd e he hb => by
  rw [getD_set hi] at hd ⊢
  split
  · rfl
  · by_cases e1 : k = i
    · subst e1
      rw [ho] at hk; cases hk
      exact hdep e he hb
    · rw [if_neg e1] at hd
      exact h k o' hk hd e he hb
/-- One operation under the ghost numbers β; J what is known of the world; VV what is known of the slots at the end. -/
inductive StOK (P : Program) (ops : Array Oper) (VV : (Nat → Nat) → List (Nat × Value)) (J : Array Bool → (Nat → Nat) → World → Prop) (i : Nat) (o : Oper) : Prop
  | val (hk : ∀ β, knownB (VV β) o = true) (hw : ∀ β, wants ops (VV β) o = some true) (v : (Nat → Nat) → Value) (hv : ∀ β t, o.dst = some t → lk (VV β) t = some (v β))
      (hr : ∀ d β w, Closed ops d → d.getD i true = false → J d β w → (execOp (evV (VV β)) o).run P w = .ok (.value (v β)) w) (hJ : ∀ d β w, d.size = ops.size → J d β w → J (d.setIfInBounds i true) β w)
  | call (hk : ∀ β, knownB (VV β) o = true) (hw : ∀ β, wants ops (VV β) o = some true) (v : (Nat → Nat) → Value) (hv : ∀ β t, o.dst = some t → lk (VV β) t = some (v β)) (f : Nat) (args : (Nat → Nat) → Array Value)
      (hr : ∀ β w, (execOp (evV (VV β)) o).run P w = .ok (.enter f (args β)) w) (hc : ∀ d β w, J d β w → Calls P f (args β) w fun e w' => e = .returned (v β) ∧ J d β w') (hJ : ∀ d β w, d.size = ops.size → J d β w → J (d.setIfInBounds i true) β w)
  | fresh (hk : ∀ β, knownB (VV β) o = true) (hw : ∀ β, wants ops (VV β) o = some true) (v : World → Value) (w' : World → World) (b : World → Nat) (x : Tmp) (hx : o.dst = some x) (hr : ∀ β w, (execOp (evV (VV β)) o).run P w = .ok (.value (v w)) (w' w))
      (hv : ∀ (β : Nat → Nat) (w : World), lk (VV (fun k => if k = i then b w else β k)) x = some (v w)) (ht : ∀ (β : Nat → Nat) (b : Nat) (t : Tmp), x ≠ t → lk (VV (fun k => if k = i then b else β k)) t = lk (VV β) t)
      (hJ : ∀ d β w, d.size = ops.size → d.getD i true = false → J d β w → J (d.setIfInBounds i true) (fun k => if k = i then b w else β k) (w' w))
  | store (hk : ∀ β, knownB (VV β) o = true) (hw : ∀ β, wants ops (VV β) o = some true) (hx : o.dst = none) (hr : ∀ d β w, d.size = ops.size → d.getD i true = false → (∀ e ∈ o.after, Region.binds .any e = true → d.getD e.on false = true) → J d β w → ∃ w', (execOp (evV (VV β)) o).run P w = .ok .skip w' ∧ J (d.setIfInBounds i true) β w')
  | skip (hw : ∀ β, wants ops (VV β) o = some false) (hv : ∀ β t, o.dst = some t → lk (VV β) t = some undef) (hJ : ∀ d β w, d.size = ops.size → J d β w → J (d.setIfInBounds i true) β w)

theorem wants_at {V : List (Nat × Value)} {o : Oper} {b : Bool} {tmps : Array Value} (h : wants ops V o = some b) (ht : ∀ j c t v, o.guard = some (j, c) → (ops[j]?).bind (·.dst) = some t → lk V t = some v → tmps[t]? = some v) : Region.wanted o (yielded ops tmps) = b := by
  unfold wants at h
  unfold Region.wanted
  split at h
  · rename_i hg; rw [hg]; simpa using h
  · rename_i j c hg
    rw [hg]
    dsimp only
    split at h
    · rename_i d hd
      obtain ⟨t, h1, hv⟩ := Option.bind_eq_some_iff.1 hd
      have := ht j c t _ hg h1 hv
      unfold yielded
      rw [h1]
      simp only [Option.bind_some, this]
      simp only [Option.some.injEq] at h
      rw [← h]
      simp
    · cases h

theorem wp_region_vv {id : Nat} {a : Act} {w : World} {Q : Exit → Act → World → Prop} {n : Nat} {ds : List Deferred} {V : List (Nat × Value)} (F : Fm n ds V a) (W : (Nat → Nat) → List (Nat × Value)) (slots : List Nat) (J : Array Bool → (Nat → Nat) → World → Prop) (β0 : Nat → Nat)
    (hm : P.follows .mixedOrders = true) (hd : edgesDown ops = true) (hfed : opsFedG ops = true) (honce : opsOnce ops = true)
    (hslots : ∀ β, keys (W β) = slots) (hdst : (slots.all fun x => Nat.blt x n && ops.any fun o => o.dst == some x) = true) (hnd : nodupB slots = true)
    (h0 : J (Array.replicate ops.size false) β0 { w with drawn := w.drawn + 1 })
    (hop : ∀ (i : Nat) (o : Oper), ops[i]? = some o → StOK P ops (fun β => W β ++ V) J i o)
    (he : ∀ (d : Array Bool) (β : Nat → Nat) (a : Act) (w : World), (∀ i, i < ops.size → d.getD i false = true) → J d β w → Fm n ds (W β ++ V) a → Q .normal a w) : (Code.region id ops true).wp P Q a w := by
  have hkn : ∀ β, (keys (W β)).Nodup := fun β => by rw [hslots β]; exact nodupB_spec hnd
  have hks : ∀ β, ∀ k ∈ keys (W β), k < n := fun β k hk => by
    rw [hslots β] at hk
    have := List.all_eq_true.1 hdst k hk
    simp only [Bool.and_eq_true] at this
    simpa using this.1
  have hFT : ∀ β, Fm n ds (W β ++ V) ⟨over a.tmps (W β), a.defers⟩ := fun β => F.over (W β) (hkn β) (hks β)
  refine wp_region_inv (fun d a' w' => Closed ops d ∧ ∃ β, J d β w' ∧ Agree ops a (over a.tmps (W β)) d a') hm hd ⟨Closed.none _, β0, h0, rfl, (over_size _ _).symm, fun t ht => ?_⟩ ?_ ?_
  · refine (over_out (W β0) _ _ fun hmem => ?_).symm
    rw [hslots β0] at hmem
    have := List.all_eq_true.1 hdst t hmem
    simp only [Bool.and_eq_true] at this
    obtain ⟨i, hi, h2⟩ := Array.any_eq_true.1 this.2
    have h1 := ht i ops[i] (Array.getElem?_eq_getElem hi) (by simpa using h2)
    rw [Array.getD_eq_getD_getElem?, Array.getElem?_replicate] at h1
    split at h1 <;> cases h1
  · rintro i o d a' w' ho hsz hf hdep ⟨hcl, β, hJ, hA⟩
    have hcl' := hcl.next ho (by rw [hsz]; exact (Array.getElem?_eq_some_iff.1 ho).1) hdep
    obtain ⟨hfg, hfo⟩ := opsFedG_spec hfed ho
    have hgd : ∀ j c t v, o.guard = some (j, c) → (ops[j]?).bind (·.dst) = some t → lk (W β ++ V) t = some v → a'.tmps[t]? = some v := fun j c t v hg ht hv => by
      rw [hA.slot (hfg j c t hg ht) hdep]
      exact (hFT β).at_ t v hv
    have hex : knownB (W β ++ V) o = true → execOp a'.eval o = execOp (evV (W β ++ V)) o := fun hk => by
      have hk' := hk
      simp only [knownB, Bool.and_eq_true, Bool.not_eq_true'] at hk
      refine execOp_congr o (fun cs b e => ?_) (fun x hx => ?_)
      · rw [e] at hk; simp [isSel] at hk
      · obtain ⟨q, hq, rfl⟩ := Array.mem_iff_getElem.1 hx
        have hkx := Array.all_eq_true.1 hk.2 q hq
        rw [← (hFT β).eval hkx]
        generalize hxx : o.op.operands[q] = x at *
        cases x with
        | tmp t =>
          have := hA.slot (hfo t (hxx ▸ Array.getElem_mem hq)) hdep
          show a'.tmps.getD t undef = (over a.tmps (W β)).getD t undef
          rw [Array.getD_eq_getD_getElem?, Array.getD_eq_getD_getElem?, this]
        | _ => rfl
    have hput : ∀ v, (∀ t, o.dst = some t → lk (W β ++ V) t = some v) → Agree ops a (over a.tmps (W β)) (d.setIfInBounds i true) (a'.put o.dst v) := fun v hv =>
      hA.put honce ho hsz fun t ht _ => (hFT β).at_ t v (hv t ht)
    cases hop i o ho with
    | val hk hw v hv hr hJn =>
      rw [wants_at (hw β) hgd, if_pos rfl]
      unfold Oper.wp
      rw [hex (hk β), hr d β w' hcl hf hJ, Oper.upon_value]
      exact ⟨hcl', β, hJn d β w' hsz hJ, hput _ (hv β)⟩
    | call hk hw v hv f args hr hc hJn =>
      rw [wants_at (hw β) hgd, if_pos rfl]
      unfold Oper.wp
      rw [hex (hk β), hr β w', Oper.upon_enter]
      exact (hc d β w' hJ).mono fun e w2 ⟨he2, hJ2⟩ => by subst he2; exact ⟨hcl', β, hJn d β w2 hsz hJ2, hput _ (hv β)⟩
    | fresh hk hw v wn b x hx hr hv ht hJn =>
      rw [wants_at (hw β) hgd, if_pos rfl]
      unfold Oper.wp
      rw [hex (hk β), hr β w', Oper.upon_value]
      refine ⟨hcl', _, hJn d β w' hsz hf hJ, ?_⟩
      have hA' := hA.next (T' := over a.tmps (W (fun k => if k = i then b w' else β k))) (by rw [over_size, over_size]) ho hf (fun t hne => by
        have h2 := ht β (b w') t (fun e => hne (by rw [hx, e]))
        by_cases hm : t ∈ slots
        · have hs1 : ∃ u, lk (W β) t = some u := by
            rcases hq : lk (W β) t with _ | u
            · exfalso
              have hmem : t ∈ keys (W β) := by rw [hslots β]; exact hm
              have hh : ∀ Z : List (Nat × Value), t ∈ keys Z → lk Z t ≠ none := by
                intro Z
                induction Z with
                | nil => intro h; simp [keys] at h
                | cons p Z ih =>
                  obtain ⟨k, u⟩ := p
                  intro h
                  simp only [lk]
                  cases hb : Nat.beq k t with
                  | true => simp
                  | false =>
                    simp only [keys, List.map_cons, List.mem_cons] at h
                    rcases h with h | h
                    · exact absurd h.symm (Nat.ne_of_beq_eq_false hb)
                    · exact ih h
              exact hh _ hmem hq
            · exact ⟨u, rfl⟩
          obtain ⟨u, hu⟩ := hs1
          have hv1 : lk (W β ++ V) t = some u := by rw [lk_append, hu]; rfl
          have e1 := (hFT β).at_ t u hv1
          have e2 := (hFT (fun k => if k = i then b w' else β k)).at_ t u (by rw [h2]; exact hv1)
          exact e2.trans e1.symm
        · rw [over_out _ _ _ (by rw [hslots]; exact hm), over_out _ _ _ (by rw [hslots]; exact hm)])
      exact hA'.put honce ho hsz fun t htx _ => by
        rw [hx] at htx; cases htx
        exact (hFT _).at_ _ _ (hv β w')
    | store hk hw hx hr =>
      rw [wants_at (hw β) hgd, if_pos rfl]
      obtain ⟨w'', h1, h2⟩ := hr d β w' hsz hf hdep hJ
      unfold Oper.wp
      rw [hex (hk β), h1, Oper.upon_skip]
      exact ⟨hcl', β, h2, hput _ (fun t ht => by rw [hx] at ht; cases ht)⟩
    | skip hw hv hJn =>
      rw [wants_at (hw β) hgd, if_neg (by simp)]
      exact ⟨hcl', β, hJn d β w' hsz hJ, hput _ (hv β)⟩
  · rintro d a' w' hsz hall ⟨_, β, hJ, hA⟩
    have : a' = ⟨over a.tmps (W β), a.defers⟩ := by
      obtain ⟨tm, df⟩ := a'
      have h1 : tm = over a.tmps (W β) := Array.ext_getElem? fun t => hA.at_ t fun i o ho _ => hall i (Array.getElem?_eq_some_iff.1 ho).1
      have h2 : df = a.defers := hA.df
      rw [h1, h2]
    rw [this]
    exact he d β _ w' hall hJ (hFT β)
end

/-! ### Blocks within a region -/
/-- A new block: made by operation al, written by operation st. -/
structure NBk where
  al : Nat
  st : Nat
  Z : Obj
  R : Obj
/-- A block that was there, written by operation st. -/
structure FBk where
  ad : Nat
  st : Nat
  Z : Obj
  R : Obj
structure JR (X : List Nat) (w0 : World) (lo : Nat) (L : List Blk) (S : List NBk) (F : List FBk) (d : Array Bool) (β : Nat → Nat) (w : World) : Prop where
  kept : Kept X w0 w
  lo_ : lo ≤ w.heap.size
  held : ∀ p ∈ L, w.heap[p.ad]? = some p.ob
  made : ∀ s ∈ S, d.getD s.al false = true → lo ≤ β s.al ∧ w.heap[β s.al]? = some (if d.getD s.st false then s.R else s.Z)
  far : ∀ s ∈ S, ∀ s' ∈ S, s.al ≠ s'.al → d.getD s.al false = true → d.getD s'.al false = true → β s.al ≠ β s'.al
  late : ∀ s ∈ S, d.getD s.al false = false → d.getD s.st false = false
  old : ∀ f ∈ F, w.heap[f.ad]? = some (if d.getD f.st false then f.R else f.Z)
structure FitR (X : List Nat) (w0 : World) (lo : Nat) (L : List Blk) (S : List NBk) (F : List FBk) : Prop where
  b0 : w0.heap.size ≤ lo
  hL : ∀ p ∈ L, p.ad < lo
  hF : ∀ f ∈ F, (w0.heap.size ≤ f.ad ∨ f.ad ∈ X) ∧ f.ad < lo
  fL : ∀ f ∈ F, ∀ p ∈ L, p.ad ≠ f.ad
  ff : ∀ f ∈ F, ∀ f' ∈ F, f.st ≠ f'.st → f.ad ≠ f'.ad
  sst : ∀ s ∈ S, ∀ s' ∈ S, s.al ≠ s'.al → s.st ≠ s'.st
  salst : ∀ s ∈ S, ∀ s' ∈ S, s.al ≠ s'.st
  sf : ∀ s ∈ S, ∀ f ∈ F, s.st ≠ f.st ∧ s.al ≠ f.st
  one : ∀ s ∈ S, ∀ s' ∈ S, s.al = s'.al → s = s'
  onef : ∀ f ∈ F, ∀ f' ∈ F, f.st = f'.st → f = f'
section
variable {X : List Nat} {w0 : World} {lo : Nat} {L : List Blk} {S : List NBk} {F : List FBk} {d : Array Bool} {β : Nat → Nat} {w : World}
theorem JR.call {w' : World} (h : JR X w0 lo L S F d β w) (k : Kept [] w w') : JR X w0 lo L S F d β w' := by
  have keep : ∀ {i : Nat} {o : Obj}, w.heap[i]? = some o → w'.heap[i]? = some o := fun hi => (k.block _ (heap_in hi) (by simp)).trans hi
  exact ⟨h.kept.trans (by simp) k, Nat.le_trans h.lo_ k.size, fun p hp => keep (h.held p hp), fun s hs hd => ⟨(h.made s hs hd).1, keep (h.made s hs hd).2⟩, h.far, h.late, fun f hf => keep (h.old f hf)⟩
theorem getD_off {i j : Nat} (hi : i < d.size) (h : j ≠ i) : (d.setIfInBounds i true).getD j false = d.getD j false := by rw [getD_set hi, if_neg h]
theorem JR.skip {i : Nat} (hi : i < d.size) (hS : ∀ s ∈ S, s.al ≠ i ∧ s.st ≠ i) (hF : ∀ f ∈ F, f.st ≠ i) (h : JR X w0 lo L S F d β w) : JR X w0 lo L S F (d.setIfInBounds i true) β w := by
  refine ⟨h.kept, h.lo_, h.held, fun s hs hd => ?_, fun s hs s' hs' hne h1 h2 => ?_, fun s hs h1 => ?_, fun f hf => ?_⟩
  · rw [getD_off hi (hS s hs).1] at hd
    rw [getD_off hi (hS s hs).2]; exact h.made s hs hd
  · rw [getD_off hi (hS s hs).1] at h1
    rw [getD_off hi (hS s' hs').1] at h2
    exact h.far s hs s' hs' hne h1 h2
  · rw [getD_off hi (hS s hs).1] at h1
    rw [getD_off hi (hS s hs).2]; exact h.late s hs h1
  · rw [getD_off hi (hF f hf)]; exact h.old f hf
theorem JR.alloc (fit : FitR X w0 lo L S F) {s : NBk} (hs : s ∈ S) (hi : s.al < d.size) (hf : d.getD s.al true = false) (h : JR X w0 lo L S F d β w) :
    JR X w0 lo L S F (d.setIfInBounds s.al true) (fun k => if k = s.al then w.heap.size else β k) (w.alloc s.Z) := by
  have keep : ∀ {k : Nat} {o : Obj}, w.heap[k]? = some o → (w.alloc s.Z).heap[k]? = some o := fun hk => (Below.heap_alloc _ _ _ (heap_in hk)).trans hk
  have hf' : d.getD s.al false = false := by
    rw [Array.getD_eq_getD_getElem?] at hf ⊢
    cases hq : d[s.al]? with
    | none => rfl
    | some v => rw [hq] at hf; exact hf
  refine ⟨h.kept.trans (by simp) (Kept.alloc w s.Z), Nat.le_trans h.lo_ (by simp), fun p hp => keep (h.held p hp), fun t ht hd => ?_, fun t ht t' ht' hne h1 h2 => ?_, fun t ht h1 => ?_, fun f hff => ?_⟩
  · rw [getD_off hi (fun e => fit.salst s hs t ht e.symm)]
    by_cases e : t.al = s.al
    · obtain rfl := fit.one t ht s hs e
      simp only [if_true, h.late t ht hf']
      exact ⟨h.lo_, heap_alloc_new _ _⟩
    · rw [getD_off hi e] at hd
      simp only [if_neg e]
      exact ⟨(h.made t ht hd).1, keep (h.made t ht hd).2⟩
  · by_cases e : t.al = s.al
    · rw [if_pos e, if_neg (fun e' => hne (e.trans e'.symm))]
      rw [getD_off hi (fun e' => hne (e.trans e'.symm))] at h2
      have := heap_in (h.made t' ht' h2).2
      omega
    · rw [if_neg e]
      rw [getD_off hi e] at h1
      by_cases e' : t'.al = s.al
      · rw [if_pos e']
        have := heap_in (h.made t ht h1).2
        omega
      · rw [if_neg e']
        rw [getD_off hi e'] at h2
        exact h.far t ht t' ht' hne h1 h2
  · by_cases e : t.al = s.al
    · rw [e, getD_set hi, if_pos rfl] at h1; cases h1
    · rw [getD_off hi e] at h1
      rw [getD_off hi (fun e => fit.salst s hs t ht e.symm)]; exact h.late t ht h1
  · rw [getD_off hi (fun e => (fit.sf s hs f hff).2 e.symm)]; exact keep (h.old f hff)
theorem JR.store (fit : FitR X w0 lo L S F) {s : NBk} (hs : s ∈ S) (hi : s.st < d.size) (hd : d.getD s.al false = true) {w' : World} (hK : Kept [β s.al] w w') (hn : w'.heap[β s.al]? = some s.R) (h : JR X w0 lo L S F d β w) : JR X w0 lo L S F (d.setIfInBounds s.st true) β w' := by
  obtain ⟨hb, hrow⟩ := h.made s hs hd
  have far : ∀ {k : Nat} {o : Obj}, k ≠ β s.al → w.heap[k]? = some o → w'.heap[k]? = some o := fun hne hk => (hK.block _ (heap_in hk) (by simpa using hne)).trans hk
  refine ⟨h.kept.trans (fun y hy => by simp only [List.mem_singleton] at hy; subst hy; exact .inl (Nat.le_trans fit.b0 hb)) hK, Nat.le_trans h.lo_ hK.size, fun p hp => far ?_ (h.held p hp), fun t ht h1 => ?_, fun t ht t' ht' hne h1 h2 => ?_, fun t ht h1 => ?_, fun f hff => ?_⟩
  · have := fit.hL p hp; omega
  · rw [getD_off hi (fit.salst t ht s hs)] at h1
    by_cases e : t.al = s.al
    · obtain rfl := fit.one t ht s hs e
      refine ⟨hb, ?_⟩
      rw [getD_set hi, if_pos rfl]
      exact hn
    · rw [getD_off hi (fit.sst t ht s hs e)]
      exact ⟨(h.made t ht h1).1, far (h.far t ht s hs e h1 hd) (h.made t ht h1).2⟩
  · rw [getD_off hi (fit.salst t ht s hs)] at h1
    rw [getD_off hi (fit.salst t' ht' s hs)] at h2
    exact h.far t ht t' ht' hne h1 h2
  · rw [getD_off hi (fit.salst t ht s hs)] at h1
    by_cases e : t.al = s.al
    · rw [e, hd] at h1; cases h1
    · rw [getD_off hi (fit.sst t ht s hs e)]; exact h.late t ht h1
  · rw [getD_off hi (fun e => (fit.sf s hs f hff).1 e.symm)]
    have := (fit.hF f hff).2
    exact far (by omega) (h.old f hff)
theorem JR.storeF (fit : FitR X w0 lo L S F) {f : FBk} (hf : f ∈ F) (hi : f.st < d.size) {w' : World} (hK : Kept [f.ad] w w') (hn : w'.heap[f.ad]? = some f.R) (h : JR X w0 lo L S F d β w) : JR X w0 lo L S F (d.setIfInBounds f.st true) β w' := by
  have far : ∀ {k : Nat} {o : Obj}, k ≠ f.ad → w.heap[k]? = some o → w'.heap[k]? = some o := fun hne hk => (hK.block _ (heap_in hk) (by simpa using hne)).trans hk
  refine ⟨h.kept.trans (fun y hy => by simp only [List.mem_singleton] at hy; subst hy; exact (fit.hF f hf).1) hK, Nat.le_trans h.lo_ hK.size, fun p hp => far (fit.fL f hf p hp) (h.held p hp), fun t ht h1 => ?_, fun t ht t' ht' hne h1 h2 => ?_, fun t ht h1 => ?_, fun g hg => ?_⟩
  · rw [getD_off hi (fit.sf t ht f hf).2] at h1
    rw [getD_off hi (fit.sf t ht f hf).1]
    have := (fit.hF f hf).2
    have h2 := (h.made t ht h1).1
    exact ⟨h2, far (by omega) (h.made t ht h1).2⟩
  · rw [getD_off hi (fit.sf t ht f hf).2] at h1
    rw [getD_off hi (fit.sf t' ht' f hf).2] at h2
    exact h.far t ht t' ht' hne h1 h2
  · rw [getD_off hi (fit.sf t ht f hf).2] at h1
    rw [getD_off hi (fit.sf t ht f hf).1]; exact h.late t ht h1
  · by_cases e : g.st = f.st
    · obtain rfl := fit.onef g hg f hf e
      rw [getD_set hi, if_pos rfl]; exact hn
    · rw [getD_off hi e]
      exact far (fit.ff g hg f hf e) (h.old g hg)
end

theorem getD_tf {d : Array Bool} {i : Nat} (h : d.getD i true = false) : d.getD i false = false := by
  rw [Array.getD_eq_getD_getElem?] at h ⊢
  cases hq : d[i]? with
  | none => rfl
  | some v => rw [hq] at h; exact h
/-! ### Their operations -/
def awayB (S : List NBk) (F : List FBk) (n i : Nat) : Bool := (S.all fun s => !(Nat.beq s.al i) && !(Nat.beq s.st i)) && (F.all fun f => !(Nat.beq f.st i)) && Nat.blt i n
theorem awayB_spec {S : List NBk} {F : List FBk} {n i : Nat} (h : awayB S F n i = true) : (∀ s ∈ S, s.al ≠ i ∧ s.st ≠ i) ∧ (∀ f ∈ F, f.st ≠ i) ∧ i < n := by
  unfold awayB at h
  simp only [Bool.and_eq_true, List.all_eq_true, Bool.not_eq_true'] at h
  exact ⟨fun s hs => ⟨Nat.ne_of_beq_eq_false (h.1.1 s hs).1, Nat.ne_of_beq_eq_false (h.1.1 s hs).2⟩, fun f hf => Nat.ne_of_beq_eq_false (h.1.2 f hf), by simpa using h.2⟩
/-- Two lists of writes that part at slot x alone. -/
def offAt (x : Nat) : List (Nat × Value) → List (Nat × Value) → Prop
  | [], [] => True
  | p :: l, q :: m => p.1 = q.1 ∧ (p.1 = x ∨ p.2 = q.2) ∧ offAt x l m
  | _, _ => False
theorem lk_off {x : Nat} {V : List (Nat × Value)} : ∀ {l m : List (Nat × Value)}, offAt x l m → ∀ t, x ≠ t → lk (l ++ V) t = lk (m ++ V) t
  | [], [], _, t, _ => rfl
  | p :: l, q :: m, h, t, hx => by
    obtain ⟨k, u⟩ := p
    obtain ⟨j, v⟩ := q
    obtain ⟨h1, h2, h3⟩ := h
    simp only at h1 h2
    subst h1
    simp only [List.cons_append, lk]
    cases hb : Nat.beq k t with
    | true =>
      rcases h2 with h2 | h2
      · exact absurd (h2.symm.trans (Nat.eq_of_beq_eq_true hb)) hx
      · simp only [h2, cond_true]
    | false => exact lk_off h3 t hx
  | [], _ :: _, h, _, _ => h.elim
  | _ :: _, [], h, _, _ => h.elim
section
variable {P : Program} {ops : Array Oper} {VV : (Nat → Nat) → List (Nat × Value)} {i : Nat} {o : Oper} {X : List Nat} {w0 : World} {lo : Nat} {L : List Blk} {S : List NBk} {F : List FBk}
theorem D_val (n : Nat) (hc0 : ∀ β, opB ops (VV β) n o = true) (v : (Nat → Nat) → Value) (x : Nat) (hx : o.dst = some x) (hv : ∀ β, lk (VV β) x = some (v β)) (hr : ∀ β w, HeldL L w → (execOp (evV (VV β)) o).run P w = .ok (.value (v β)) w)
    (hpl : awayB S F ops.size i = true) : StOK P ops VV (JR X w0 lo L S F) i o := by
  have hk := fun β => (opB_spec (hc0 β)).2.1
  have hw := fun β => (opB_spec (hc0 β)).1
  obtain ⟨hS, hF, hin⟩ := awayB_spec hpl
  exact .val hk hw v (fun β t ht => by rw [hx] at ht; cases ht; exact hv β) (fun d β w _ _ hJ => hr β w ⟨hJ.held⟩) (fun d β w hsz hJ => hJ.skip (by omega) hS hF)
/-- A value that is read of a block ahead of its store. -/
theorem D_valZ (n : Nat) (hc0 : ∀ β, opB ops (VV β) n o = true) (v : (Nat → Nat) → Value) (x : Nat) (hx : o.dst = some x) (hv : ∀ β, lk (VV β) x = some (v β)) (hr : ∀ β w, HeldL (F.map (fun f => ⟨true, f.ad, f.Z⟩) ++ L) w → (execOp (evV (VV β)) o).run P w = .ok (.value (v β)) w)
    (hpl : awayB S F ops.size i = true) (hst : F.all (fun f => ((ops[f.st]?).map fun o' => o'.after.any fun e => Region.binds .any e && Nat.beq e.on i).getD false) = true) : StOK P ops VV (JR X w0 lo L S F) i o := by
  have hk := fun β => (opB_spec (hc0 β)).2.1
  have hw := fun β => (opB_spec (hc0 β)).1
  obtain ⟨hS, hF, hin⟩ := awayB_spec hpl
  refine .val hk hw v (fun β t ht => by rw [hx] at ht; cases ht; exact hv β) (fun d β w hcl hf hJ => hr β w ⟨fun p hp => ?_⟩) (fun d β w hsz hJ => hJ.skip (by omega) hS hF)
  rcases List.mem_append.1 hp with hp | hp
  · obtain ⟨f, hfm, rfl⟩ := List.mem_map.1 hp
    have h1 := List.all_eq_true.1 hst f hfm
    have h2 := hJ.old f hfm
    have h3 : d.getD f.st false = false := by
      cases hq : d.getD f.st false with
      | false => rfl
      | true =>
        cases ho' : ops[f.st]? with
        | none => rw [ho'] at h1; simp at h1
        | some o' =>
          rw [ho'] at h1
          simp only [Option.map_some, Option.getD_some] at h1
          obtain ⟨e, he, hb⟩ := Array.any_eq_true'.1 h1
          simp only [Bool.and_eq_true] at hb
          have := hcl f.st o' ho' hq e he hb.1
          rw [Nat.eq_of_beq_eq_true hb.2, getD_tf hf] at this
          cases this
    rw [h3] at h2
    exact h2
  · exact hJ.held p hp
theorem D_skip (hw : ∀ β, wants ops (VV β) o = some false) (x : Nat) (hx : o.dst = some x) (hv : ∀ β, lk (VV β) x = some undef) (hpl : awayB S F ops.size i = true) : StOK P ops VV (JR X w0 lo L S F) i o := by
  obtain ⟨hS, hF, hin⟩ := awayB_spec hpl
  exact .skip hw (fun β t ht => by rw [hx] at ht; cases ht; exact hv β) (fun d β w hsz hJ => hJ.skip (by omega) hS hF)
theorem D_call (n : Nat) (hc0 : ∀ β, opB ops (VV β) n o = true) (v : (Nat → Nat) → Value) (x : Nat) (hx : o.dst = some x) (hv : ∀ β, lk (VV β) x = some (v β)) (f : Nat) (args : (Nat → Nat) → Array Value) (hr : ∀ β w, (execOp (evV (VV β)) o).run P w = .ok (.enter f (args β)) w)
    (hc : ∀ β w, Kept X w0 w → Calls P f (args β) w fun e w' => e = .returned (v β) ∧ Kept [] w w') (hpl : awayB S F ops.size i = true) : StOK P ops VV (JR X w0 lo L S F) i o := by
  have hk := fun β => (opB_spec (hc0 β)).2.1
  have hw := fun β => (opB_spec (hc0 β)).1
  obtain ⟨hS, hF, hin⟩ := awayB_spec hpl
  exact .call hk hw v (fun β t ht => by rw [hx] at ht; cases ht; exact hv β) f args hr (fun d β w hJ => (hc β w hJ.kept).mono fun e w' ⟨h1, h2⟩ => ⟨h1, hJ.call h2⟩) (fun d β w hsz hJ => hJ.skip (by omega) hS hF)
theorem D_new {W : (Nat → Nat) → List (Nat × Value)} {V : List (Nat × Value)} (fit : FitR X w0 lo L S F) (s : NBk) (hs : s ∈ S) (hi : s.al = i) (n : Nat) (hc0 : ∀ β, opB ops (W β ++ V) n o = true) (x : Tmp) (hx : o.dst = some x) (vf : Nat → Value)
    (hr : ∀ β w, (execOp (evV (W β ++ V)) o).run P w = .ok (.value (vf w.heap.size)) (w.alloc s.Z)) (hv : ∀ β : Nat → Nat, lk (W β ++ V) x = some (vf (β i))) (ht : ∀ (β : Nat → Nat) (b : Nat), offAt x (W (fun k => if k = i then b else β k)) (W β)) (hin' : Nat.blt i ops.size = true) : StOK P ops (fun β => W β ++ V) (JR X w0 lo L S F) i o := by
  have hk := fun β => (opB_spec (hc0 β)).2.1
  have hw := fun β => (opB_spec (hc0 β)).1
  have hin : i < ops.size := by simpa using hin'
  subst hi
  refine .fresh hk hw (fun w => vf w.heap.size) (fun w => w.alloc s.Z) (fun w => w.heap.size) x hx hr (fun β w => ?_) (fun β b t hne => lk_off (ht β b) t hne) (fun d β w hsz hf hJ => hJ.alloc fit hs (by omega) hf)
  have := hv (fun k => if k = s.al then w.heap.size else β k)
  simp only [if_true] at this
  exact this
theorem D_put (fit : FitR X w0 lo L S F) (s : NBk) (hs : s ∈ S) (hi : s.st = i) (n : Nat) (hc0 : ∀ β, opB ops (VV β) n o = true) (hx : o.dst = none) (hal : (o.after.any fun e => Region.binds .any e && Nat.beq e.on s.al) = true)
    (hr : ∀ β w, HeldL L w → w.heap[β s.al]? = some s.Z → ∃ w', (execOp (evV (VV β)) o).run P w = .ok .skip w' ∧ Kept [β s.al] w w' ∧ w'.heap[β s.al]? = some s.R)
    (hin' : Nat.blt i ops.size = true) : StOK P ops VV (JR X w0 lo L S F) i o := by
  have hk := fun β => (opB_spec (hc0 β)).2.1
  have hw := fun β => (opB_spec (hc0 β)).1
  have hin : i < ops.size := by simpa using hin'
  subst hi
  refine .store hk hw hx fun d β w hsz hf hdep hJ => ?_
  obtain ⟨e, he, hb⟩ := Array.any_eq_true'.1 hal
  simp only [Bool.and_eq_true] at hb
  have hd : d.getD s.al false = true := (Nat.eq_of_beq_eq_true hb.2) ▸ hdep e he hb.1
  have hrow := (hJ.made s hs hd).2
  rw [getD_tf hf] at hrow
  obtain ⟨w', h1, h2, h3⟩ := hr β w ⟨hJ.held⟩ hrow
  exact ⟨w', h1, hJ.store fit hs (by omega) hd h2 h3⟩
theorem D_putF (fit : FitR X w0 lo L S F) (f : FBk) (hf : f ∈ F) (hi : f.st = i) (n : Nat) (hc0 : ∀ β, opB ops (VV β) n o = true) (hx : o.dst = none)
    (hr : ∀ β w, HeldL L w → w.heap[f.ad]? = some f.Z → ∃ w', (execOp (evV (VV β)) o).run P w = .ok .skip w' ∧ Kept [f.ad] w w' ∧ w'.heap[f.ad]? = some f.R)
    (hin' : Nat.blt i ops.size = true) : StOK P ops VV (JR X w0 lo L S F) i o := by
  have hk := fun β => (opB_spec (hc0 β)).2.1
  have hw := fun β => (opB_spec (hc0 β)).1
  have hin : i < ops.size := by simpa using hin'
  subst hi
  refine .store hk hw hx fun d β w hsz hf' hdep hJ => ?_
  have hrow := hJ.old f hf
  rw [getD_tf hf'] at hrow
  obtain ⟨w', h1, h2, h3⟩ := hr β w ⟨hJ.held⟩ hrow
  exact ⟨w', h1, hJ.storeF fit hf (by omega) h2 h3⟩
end

/-- All operations, from number k on. -/
def AllSt (P : Program) (ops : Array Oper) (VV : (Nat → Nat) → List (Nat × Value)) (J : Array Bool → (Nat → Nat) → World → Prop) : Nat → List Oper → Prop
  | _, [] => True
  | k, o :: l => StOK P ops VV J k o ∧ AllSt P ops VV J (k + 1) l
theorem AllSt.at_ {P : Program} {ops : Array Oper} {VV : (Nat → Nat) → List (Nat × Value)} {J : Array Bool → (Nat → Nat) → World → Prop} : ∀ {l : List Oper} {k : Nat}, AllSt P ops VV J k l → ∀ i o, l[i]? = some o → StOK P ops VV J (k + i) o
  | [], _, _, i, o, h => by simp at h
  | o' :: l, k, hA, 0, o, h => by
    simp only [List.getElem?_cons_zero, Option.some.injEq] at h
    subst h; exact hA.1
  | o' :: l, k, hA, i + 1, o, h => by
    simp only [List.getElem?_cons_succ] at h
    have := AllSt.at_ hA.2 i o h
    rwa [Nat.add_assoc, Nat.add_comm 1 i] at this
/-- Some of the blocks, in another order. -/
theorem Hp.pick {X w0 L w} (H : Hp X w0 L w) (ks : List Nat) (hn : nodupB ks = true) (L' : List Blk) (hL : ks.filterMap (fun k => L[k]?) = L') : Hp X w0 L' w := by
  subst hL
  have mem : ∀ p ∈ ks.filterMap (fun k => L[k]?), p ∈ L := fun p hp => by
    obtain ⟨k, _, hk⟩ := List.mem_filterMap.1 hp
    exact List.mem_of_getElem? hk
  refine ⟨H.kept, fun p hp => H.held p (mem p hp), fun p hp => H.own p (mem p hp), ?_⟩
  have hnd := nodupB_spec hn
  clear hn
  induction ks with
  | nil => exact List.Pairwise.nil
  | cons k ks ih =>
    obtain ⟨h1, h2⟩ := List.nodup_cons.1 hnd
    have ih' := ih (fun p hp => by
      obtain ⟨k, _, hk⟩ := List.mem_filterMap.1 hp
      exact List.mem_of_getElem? hk) h2
    rw [List.filterMap_cons]
    split
    · exact ih'
    · rename_i p hp
      refine List.pairwise_cons.2 ⟨fun q hq => ?_, ih'⟩
      obtain ⟨j, hj, hq⟩ := List.mem_filterMap.1 hq
      have hne : k ≠ j := fun e => h1 (e ▸ hj)
      obtain ⟨hk1, hk2⟩ := List.getElem?_eq_some_iff.1 hp
      obtain ⟨hj1, hj2⟩ := List.getElem?_eq_some_iff.1 hq
      have hp := List.pairwise_iff_getElem.1 H.far
      rcases Nat.lt_or_gt_of_ne hne with h | h
      · have := hp k j hk1 hj1 h; rw [hk2, hj2] at this; exact this
      · have := hp j k hj1 hk1 h; rw [hk2, hj2] at this; exact fun e => this e.symm
def idxB (S : List NBk) (F : List FBk) : Bool := nodupB (S.map (·.al) ++ (S.map (·.st) ++ F.map (·.st)))
theorem inj_of_nodup {α : Type} {f : α → Nat} : ∀ {l : List α}, (l.map f).Nodup → ∀ a ∈ l, ∀ b ∈ l, f a = f b → a = b
  | [], _, a, ha, _, _, _ => by simp at ha
  | c :: l, h, a, ha, b, hb, e => by
    obtain ⟨h1, h2⟩ := List.nodup_cons.1 h
    rcases List.mem_cons.1 ha with ea | ma
    · rcases List.mem_cons.1 hb with eb | mb
      · rw [ea, eb]
      · exact absurd (show f c ∈ l.map f from (ea ▸ e) ▸ List.mem_map_of_mem mb) h1
    · rcases List.mem_cons.1 hb with eb | mb
      · exact absurd (show f c ∈ l.map f from (eb ▸ e) ▸ List.mem_map_of_mem ma) h1
      · exact inj_of_nodup h2 a ma b mb e
abbrev blkZ (f : FBk) : Blk := ⟨true, f.ad, f.Z⟩
abbrev blkR (f : FBk) : Blk := ⟨true, f.ad, f.R⟩
abbrev blkN (β : Nat → Nat) (s : NBk) : Blk := ⟨true, β s.al, s.R⟩
theorem Hp.fit {X w0 w} {S : List NBk} {F : List FBk} {L : List Blk} (H : Hp X w0 (F.map blkZ ++ L) w) (hi : idxB S F = true) : FitR X w0 w.heap.size L S F := by
  have hn := nodupB_spec hi
  obtain ⟨n1, n2, n3⟩ := List.nodup_append.1 hn
  obtain ⟨n4, n5, n6⟩ := List.nodup_append.1 n2
  obtain ⟨p1, p2, p3⟩ := List.pairwise_append.1 H.far
  have mS : ∀ f ∈ F, blkZ f ∈ F.map blkZ ++ L := fun f hf => List.mem_append_left _ (List.mem_map_of_mem hf)
  refine ⟨H.kept.size, fun p hp => heap_in (H.held p (List.mem_append_right _ hp)), fun f hf => ⟨H.own _ (mS f hf) rfl, heap_in (H.held _ (mS f hf))⟩, fun f hf p hp => fun e => p3 (blkZ f) (List.mem_map_of_mem hf) p hp e.symm, fun f hf f' hf' hne => ?_,
    fun s hs s' hs' hne e => hne ?_, fun s hs s' hs' e => n3 s.al (List.mem_map_of_mem hs) s'.st (List.mem_append_left _ (List.mem_map_of_mem hs')) e, fun s hs f hf => ⟨fun e => n6 s.st (List.mem_map_of_mem hs) f.st (List.mem_map_of_mem hf) e, fun e => n3 s.al (List.mem_map_of_mem hs) f.st (List.mem_append_right _ (List.mem_map_of_mem hf)) e⟩,
    fun s hs s' hs' e => inj_of_nodup n1 s hs s' hs' e, fun f hf f' hf' e => inj_of_nodup n5 f hf f' hf' e⟩
  · rw [List.pairwise_map] at p1
    have hff : f ≠ f' := fun e => hne (by rw [e])
    obtain ⟨j, hj, rfl⟩ := List.mem_iff_getElem.1 hf
    obtain ⟨k, hk, rfl⟩ := List.mem_iff_getElem.1 hf'
    have hp := List.pairwise_iff_getElem.1 p1
    rcases Nat.lt_trichotomy j k with h | h | h
    · exact hp j k hj hk h
    · subst h; exact absurd rfl hff
    · exact fun e => hp k j hk hj h e.symm
  · rw [inj_of_nodup n4 s hs s' hs' e]
/-- A region that draws its order. -/
theorem D_region {P : Program} {id : Nat} {lops : List Oper} {a : Act} {w w0 : World} {Q : Exit → Act → World → Prop} {n : Nat} {ds : List Deferred} {V : List (Nat × Value)} {X : List Nat} {L0 : List Blk} (Fa : Fm n ds V a) (H0 : Hp X w0 L0 w) (W : (Nat → Nat) → List (Nat × Value)) (slots : List Nat) (S : List NBk) (F : List FBk) (L : List Blk) (ks : List Nat)
    (hm : P.follows .mixedOrders = true) (hck : (nodupB ks && edgesDown lops.toArray && opsFedG lops.toArray && opsOnce lops.toArray && (slots.all fun x => Nat.blt x n && lops.toArray.any fun o => o.dst == some x) && nodupB slots && idxB S F && S.all (fun s => Nat.blt s.al lops.toArray.size && Nat.blt s.st lops.toArray.size) && F.all (fun f => Nat.blt f.st lops.toArray.size)) = true)
    (hL : ks.filterMap (fun k => L0[k]?) = F.map blkZ ++ L) (hslots : ∀ β, keys (W β) = slots)
    (hop : FitR X w0 w.heap.size L S F → AllSt P lops.toArray (fun β => W β ++ V) (JR X w0 w.heap.size L S F) 0 lops)
    (he : ∀ β a w, Fm n ds (W β ++ V) a → Hp X w0 (S.map (blkN β) ++ (F.map blkR ++ L)) w → Q .normal a w) : (Code.region id lops.toArray true).wp P Q a w := by
  simp only [Bool.and_eq_true] at hck
  obtain ⟨⟨⟨⟨⟨⟨⟨⟨k1, k2⟩, k3⟩, k4⟩, k5⟩, k6⟩, k7⟩, k8⟩, k9⟩ := hck
  have H := H0.pick ks k1 _ hL
  have fit := H.fit k7
  simp only [List.all_eq_true, Bool.and_eq_true] at k8 k9
  have z : ∀ (m : Nat) j, (Array.replicate m false).getD j false = false := fun m j => by
    rw [Array.getD_eq_getD_getElem?, Array.getElem?_replicate]; split <;> rfl
  refine wp_region_vv Fa W slots (JR X w0 w.heap.size L S F) (fun _ => 0) hm k2 k3 k4 hslots k5 k6 ⟨H.kept.trans (by simp) (Kept.drew w), Nat.le_refl _, fun p hp => H.held p (List.mem_append_right _ hp), fun s hs hd => ?_, fun s hs s' hs' hne h1 => ?_, fun s hs _ => z _ _, fun f hf => ?_⟩ (fun i o ho => ?_) (fun d β a w' hall hJ FF => ?_)
  · rw [z] at hd; cases hd
  · rw [z] at h1; cases h1
  · rw [z]; exact H.held _ (List.mem_append_left _ (List.mem_map_of_mem hf))
  · have := (hop fit).at_ i o (by simpa using ho)
    rwa [Nat.zero_add] at this
  · refine he β a w' FF ⟨hJ.kept, fun p hp => ?_, fun p hp ho => ?_, ?_⟩
    · rcases List.mem_append.1 hp with hp | hp
      · obtain ⟨s, hs, rfl⟩ := List.mem_map.1 hp
        have := hJ.made s hs (hall _ (by simpa using (k8 s hs).1))
        rw [hall _ (by simpa using (k8 s hs).2)] at this
        exact this.2
      · rcases List.mem_append.1 hp with hp | hp
        · obtain ⟨f, hf, rfl⟩ := List.mem_map.1 hp
          have := hJ.old f hf
          rw [hall _ (by simpa using k9 f hf)] at this
          exact this
        · exact hJ.held p hp
    · rcases List.mem_append.1 hp with hp | hp
      · obtain ⟨s, hs, rfl⟩ := List.mem_map.1 hp
        exact .inl (Nat.le_trans fit.b0 (hJ.made s hs (hall _ (by simpa using (k8 s hs).1))).1)
      · rcases List.mem_append.1 hp with hp | hp
        · obtain ⟨f, hf, rfl⟩ := List.mem_map.1 hp
          exact (fit.hF f hf).1
        · exact H.own p (List.mem_append_right _ hp) ho
    · have pFL : (F.map blkR ++ L).Pairwise fun p q => p.ad ≠ q.ad := by
        have := H.far
        rw [List.pairwise_append] at this ⊢
        refine ⟨?_, this.2.1, fun p hp q hq => ?_⟩
        · have h1 := this.1
          rw [List.pairwise_map] at h1 ⊢
          exact h1
        · obtain ⟨f, hf, rfl⟩ := List.mem_map.1 hp
          exact this.2.2 (blkZ f) (List.mem_map_of_mem hf) q hq
      have low : ∀ p ∈ F.map blkR ++ L, p.ad < w.heap.size := fun p hp => by
        rcases List.mem_append.1 hp with hp | hp
        · obtain ⟨f, hf, rfl⟩ := List.mem_map.1 hp
          exact (fit.hF f hf).2
        · exact fit.hL p hp
      refine List.pairwise_append.2 ⟨?_, pFL, fun p hp q hq => ?_⟩
      · rw [List.pairwise_map]
        have hn := nodupB_spec k7
        have n1 := (List.nodup_append.1 hn).1
        have hpw : S.Pairwise fun s s' => s.al ≠ s'.al := by
          have := n1
          unfold List.Nodup at this
          rwa [List.pairwise_map] at this
        exact hpw.imp_of_mem fun {s s'} hs hs' hne => hJ.far s hs s' hs' hne (hall _ (by simpa using (k8 s hs).1)) (hall _ (by simpa using (k8 s' hs').1))
      · obtain ⟨s, hs, rfl⟩ := List.mem_map.1 hp
        have h1 := (hJ.made s hs (hall _ (by simpa using (k8 s hs).1))).1
        have h2 := low q hq
        show β s.al ≠ q.ad
        omega
end Go.Proofs.YtdejhenkdbjakaaDoor
