/- Regions that draw their order, with calls that make and write memory. -/
import Derived.Test.YtlnlppmhiobgjaaJ0
set_option linter.unusedVariables false
set_option linter.unusedSimpArgs false
namespace Go.Proofs.Ytlnlppmhiobgjaa
open Go Go.RowKit
def updS (β : Nat → SlR) (i : Nat) (r : SlR) : Nat → SlR := fun k => if k = i then r else β k
theorem updS_at (β : Nat → SlR) (i : Nat) (r : SlR) : updS β i r i = r := if_pos rfl
theorem Agree.next2 {ops : Array Oper} {a0 : Act} {T T' : Array Value} {d : Array Bool} {a : Act} (h : Agree ops a0 T d a) (hs : T'.size = T.size) (hT : ∀ t, (∀ i o, ops[i]? = some o → o.dst = some t → d.getD i false = true) → T'[t]? = T[t]?) : Agree ops a0 T' d a :=
  ⟨h.df, by rw [h.sz, hs], fun t ht => by rw [hT t ht]; exact h.at_ t ht⟩
theorem updS_off (β : Nat → SlR) {i j : Nat} (r : SlR) (h : j ≠ i) : updS β i r j = β j := if_neg h
section
variable {P : Program} {ops : Array Oper}
/-- Without some slots. -/
def rm (ex : List Nat) (W : List (Nat × Value)) : List (Nat × Value) := match ex with
  | [] => W
  | _ => W.filter fun p => !ex.contains p.1
def exAt (exs : List (Nat × List Nat)) (i : Nat) : List Nat := (exs.lookup i).getD []
def edgeB (ops : Array Oper) (i j : Nat) : Bool := match ops[i]? with | some o => o.after.any fun e => Region.binds .any e && Nat.beq e.on j | none => false
def reachB (ops : Array Oper) : Nat → Nat → Nat → Bool
  | 0, i, j => edgeB ops i j
  | m + 1, i, j => edgeB ops i j || (match ops[i]? with | some o => o.after.any fun e => Region.binds .any e && reachB ops m e.on j | none => false)
section
variable {ops : Array Oper} {d : Array Bool} {i j : Nat}
theorem edge_done {o : Oper} (hcl : ∀ e ∈ o.after, Region.binds .any e = true → d.getD e.on false = true) (ho : ops[i]? = some o) (h : edgeB ops i j = true) : d.getD j false = true := by
  unfold edgeB at h
  rw [ho] at h
  obtain ⟨e, he, hb⟩ := Array.any_eq_true'.1 h
  simp only [Bool.and_eq_true] at hb
  rw [← Nat.eq_of_beq_eq_true hb.2]
  exact hcl e he hb.1
theorem reach_dep (hcl : Closed ops d) : ∀ {m i : Nat} {o : Oper}, ops[i]? = some o → (∀ e ∈ o.after, Region.binds .any e = true → d.getD e.on false = true) → reachB ops m i j = true → d.getD j false = true
  | 0, i, o, ho, hd, h => edge_done hd ho h
  | m + 1, i, o, ho, hd, h => by
    simp only [reachB, Bool.or_eq_true] at h
    rcases h with h | h
    · exact edge_done hd ho h
    · rw [ho] at h
      obtain ⟨e, he, hb⟩ := Array.any_eq_true'.1 h
      simp only [Bool.and_eq_true] at hb
      have hdn := hd e he hb.1
      cases ho' : ops[e.on]? with
      | none =>
        exfalso
        have h2 := hb.2
        cases m <;> simp [reachB, edgeB, ho'] at h2
      | some o' => exact reach_dep hcl ho' (fun e' he' hb' => hcl e.on o' ho' hdn e' he' hb') hb.2
theorem reach_done (hcl : Closed ops d) {m : Nat} (hi : d.getD i false = true) (h : reachB ops m i j = true) : d.getD j false = true := by
  cases ho : ops[i]? with
  | none => exfalso; cases m <;> simp [reachB, edgeB, ho] at h
  | some o => exact reach_dep hcl ho (fun e he hb => hcl i o ho hi e he hb) h
/-- What depends on what is not done is not done. -/
theorem reach_not (hcl : Closed ops d) {m : Nat} (hj : d.getD j true = false) (h : reachB ops m i j = true) : d.getD i false = false := by
  cases hq : d.getD i false with
  | false => rfl
  | true =>
    have := reach_done hcl hq h
    rw [getD_tf hj] at this
    cases this
end
/-- All that write slot t wait for i. -/
def allLate (ops : Array Oper) (fu i t : Nat) : Bool := (List.range ops.size).all fun k => ((ops[k]?).map fun o => o.dst != some t || reachB ops fu k i).getD true
def fedX (ops : Array Oper) (fu : Nat) (exs : List (Nat × List Nat)) (i : Nat) (o : Oper) (t : Nat) : Bool := if (exAt exs i).contains t then allLate ops fu i t else fedTmp ops o t
def opsFedX (ops : Array Oper) (fu : Nat) (exs : List (Nat × List Nat)) : Bool := (List.range ops.size).all fun i => ((ops[i]?).map fun o => (match o.guard with
    | none => true
    | some (j, _) => match (ops[j]?).bind (·.dst) with
      | some t => fedX ops fu exs i o t
      | none => true) && o.op.operands.all fun x => match x with
    | .tmp t => fedX ops fu exs i o t
    | _ => true).getD true
theorem opsFedX_spec {ops : Array Oper} {fu : Nat} {exs : List (Nat × List Nat)} (h : opsFedX ops fu exs = true) {i : Nat} {o : Oper} (ho : ops[i]? = some o) : (∀ j b t, o.guard = some (j, b) → (ops[j]?).bind (·.dst) = some t → fedX ops fu exs i o t = true) ∧ ∀ t, .tmp t ∈ o.op.operands → fedX ops fu exs i o t = true := by
  have hi : i < ops.size := (Array.getElem?_eq_some_iff.1 ho).1
  have h1 := List.all_eq_true.1 h i (List.mem_range.2 hi)
  rw [ho] at h1
  simp only [Option.map_some, Option.getD_some, Bool.and_eq_true] at h1
  refine ⟨fun j b t hg ht => ?_, fun t ht => ?_⟩
  · have := h1.1
    rw [hg] at this
    simpa [ht] using this
  · obtain ⟨j, hj, he⟩ := Array.mem_iff_getElem.1 ht
    have h2 := Array.all_eq_true.1 h1.2 j hj
    rw [he] at h2
    exact h2
/-- What nobody has written yet is what it was. -/
def Orig (ops : Array Oper) (a0 : Act) (d : Array Bool) (a : Act) : Prop := ∀ t, (∀ k o, ops[k]? = some o → o.dst = some t → d.getD k false = false) → a.tmps[t]? = a0.tmps[t]?
theorem Orig.put {ops : Array Oper} {a0 : Act} {d : Array Bool} {a : Act} (h : Orig ops a0 d a) {i : Nat} {o : Oper} (ho : ops[i]? = some o) (hf : d.getD i true = false) (v : Value) : Orig ops a0 (d.setIfInBounds i true) (a.put o.dst v) := fun t ht => by
  have hi : i < d.size := by
    rcases Nat.lt_or_ge i d.size with h' | h'
    · exact h'
    · rw [Array.getD_eq_getD_getElem?, Array.getElem?_eq_none h'] at hf; cases hf
  have hne : o.dst ≠ some t := fun e => by
    have := ht i o ho e
    rw [getD_set hi, if_pos rfl] at this; cases this
  have h1 := h t fun k o' hk hd => by
    have := ht k o' hk hd
    rw [getD_set hi] at this
    split at this
    · cases this
    · exact this
  rw [← h1]
  cases hq : o.dst with
  | none => rfl
  | some x =>
    show (a.tmps.setIfInBounds x v)[t]? = _
    rw [Array.getElem?_setIfInBounds, if_neg (fun e => hne (by rw [hq, e]))]
theorem lk_filter {ex : List Nat} {t : Nat} : ∀ {W : List (Nat × Value)}, lk (W.filter fun p => !ex.contains p.1) t = if ex.contains t then none else lk W t
  | [] => by split <;> rfl
  | (k, v) :: W => by
    have ih := lk_filter (ex := ex) (t := t) (W := W)
    rw [List.filter_cons]
    cases hc : ex.contains k with
    | true =>
      rw [if_neg (by simp [hc]), ih]
      split
      · rfl
      · rename_i hn
        simp only [lk]
        cases hb : Nat.beq k t with
        | true => rw [← Nat.eq_of_beq_eq_true hb, hc] at hn; exact absurd rfl hn
        | false => rfl
    | false =>
      rw [if_pos (by simp [hc])]
      simp only [lk]
      cases hb : Nat.beq k t with
      | true => rw [← Nat.eq_of_beq_eq_true hb, hc]; rfl
      | false => exact ih
theorem lk_rm {ex : List Nat} {t : Nat} {W : List (Nat × Value)} : lk (rm ex W) t = if ex.contains t then none else lk W t := by
  unfold rm
  split
  · simp
  · exact lk_filter
inductive StO2 (P : Program) (ops : Array Oper) (W : (Nat → SlR) → List (Nat × Value)) (V : List (Nat × Value)) (exs : List (Nat × List Nat)) (J : Array Bool → (Nat → SlR) → World → Prop) (i : Nat) (o : Oper) : Prop
  | val (hk : ∀ β, knownB (rm (exAt exs i) (W β) ++ V) o = true) (hw : ∀ β, wants ops (rm (exAt exs i) (W β) ++ V) o = some true) (v : (Nat → SlR) → Value) (hv : ∀ β t, o.dst = some t → lk (W β ++ V) t = some (v β))
      (hr : ∀ d β w, Closed ops d → d.getD i true = false → (∀ e ∈ o.after, Region.binds .any e = true → d.getD e.on false = true) → J d β w → (execOp (evV (rm (exAt exs i) (W β) ++ V)) o).run P w = .ok (.value (v β)) w ∧ J (d.setIfInBounds i true) β w)
  | call (hk : ∀ β, knownB (rm (exAt exs i) (W β) ++ V) o = true) (hw : ∀ β, wants ops (rm (exAt exs i) (W β) ++ V) o = some true) (v : (Nat → SlR) → Value) (hv : ∀ β t, o.dst = some t → lk (W β ++ V) t = some (v β)) (f : Nat) (args : (Nat → SlR) → Array Value)
      (hr : ∀ β w, (execOp (evV (rm (exAt exs i) (W β) ++ V)) o).run P w = .ok (.enter f (args β)) w) (hc : ∀ d β w, Closed ops d → d.getD i true = false → (∀ e ∈ o.after, Region.binds .any e = true → d.getD e.on false = true) → J d β w → Calls P f (args β) w fun e w' => e = .returned (v β) ∧ J (d.setIfInBounds i true) β w')
  | callX (hk : ∀ β, knownB (rm (exAt exs i) (W β) ++ V) o = true) (hw : ∀ β, wants ops (rm (exAt exs i) (W β) ++ V) o = some true) (v : (Nat → SlR) → Value) (hv : ∀ β r t, o.dst = some t → lk (W (updS β i r) ++ V) t = some (v (updS β i r))) (ht : ∀ β r t, o.dst ≠ some t → lk (W (updS β i r) ++ V) t = lk (W β ++ V) t ∨ ∀ d, Closed ops d → d.getD i true = false → ∃ j oj, ops[j]? = some oj ∧ oj.dst = some t ∧ d.getD j false = false) (f : Nat) (args : (Nat → SlR) → Array Value)
      (hr : ∀ β w, (execOp (evV (rm (exAt exs i) (W β) ++ V)) o).run P w = .ok (.enter f (args β)) w) (hc : ∀ d β w, Closed ops d → d.getD i true = false → (∀ e ∈ o.after, Region.binds .any e = true → d.getD e.on false = true) → J d β w → Calls P f (args β) w fun e w' => ∃ r, e = .returned (v (updS β i r)) ∧ J (d.setIfInBounds i true) (updS β i r) w')
  | fresh (hk : ∀ β, knownB (rm (exAt exs i) (W β) ++ V) o = true) (hw : ∀ β, wants ops (rm (exAt exs i) (W β) ++ V) o = some true) (v : (Nat → SlR) → Value) (hv : ∀ β r t, o.dst = some t → lk (W (updS β i r) ++ V) t = some (v (updS β i r))) (ht : ∀ β r t, o.dst ≠ some t → lk (W (updS β i r) ++ V) t = lk (W β ++ V) t ∨ ∀ d, Closed ops d → d.getD i true = false → ∃ j oj, ops[j]? = some oj ∧ oj.dst = some t ∧ d.getD j false = false)
      (hr : ∀ d β w, Closed ops d → d.getD i true = false → (∀ e ∈ o.after, Region.binds .any e = true → d.getD e.on false = true) → J d β w → ∃ r w', (execOp (evV (rm (exAt exs i) (W β) ++ V)) o).run P w = .ok (.value (v (updS β i r))) w' ∧ J (d.setIfInBounds i true) (updS β i r) w')
  | store (hk : ∀ β, knownB (rm (exAt exs i) (W β) ++ V) o = true) (hw : ∀ β, wants ops (rm (exAt exs i) (W β) ++ V) o = some true) (hx : o.dst = none) (hr : ∀ d β w, Closed ops d → d.getD i true = false → (∀ e ∈ o.after, Region.binds .any e = true → d.getD e.on false = true) → J d β w → ∃ w', (execOp (evV (rm (exAt exs i) (W β) ++ V)) o).run P w = .ok .skip w' ∧ J (d.setIfInBounds i true) β w')
  | skip (hw : ∀ β, wants ops (rm (exAt exs i) (W β) ++ V) o = some false) (hv : ∀ β t, o.dst = some t → lk (W β ++ V) t = some undef) (hJ : ∀ d β w, J d β w → J (d.setIfInBounds i true) β w)

theorem wpAny_v2 {a : Act} {w : World} {Q : Exit → Act → World → Prop} {n : Nat} {ds : List Deferred} {V : List (Nat × Value)} (F : Fm n ds V a) (W : (Nat → SlR) → List (Nat × Value)) (slots : List Nat) (J : Array Bool → (Nat → SlR) → World → Prop) (β0 : Nat → SlR)
    (hd : edgesDown ops = true) (fu : Nat) (exs : List (Nat × List Nat)) (hfed : opsFedX ops fu exs = true) (honce : opsOnce ops = true)
    (hslots : ∀ β, keys (W β) = slots) (hdst : (slots.all fun x => Nat.blt x n && ops.any fun o => o.dst == some x) = true) (hnd : nodupB slots = true)
    (h0 : J (Array.replicate ops.size false) β0 { w with drawn := w.drawn + 1 })
    (hop : ∀ (i : Nat) (o : Oper), ops[i]? = some o → StO2 P ops W V exs J i o)
    (he : ∀ (d : Array Bool) (β : Nat → SlR) (a : Act) (w : World), (∀ i, i < ops.size → d.getD i false = true) → J d β w → Fm n ds (W β ++ V) a → Q .normal a w) : wpAny P .any ops Q ops.size (Array.replicate ops.size false) a { w with drawn := w.drawn + 1 } := by
  have hkn : ∀ β, (keys (W β)).Nodup := fun β => by rw [hslots β]; exact nodupB_spec hnd
  have hks : ∀ β, ∀ k ∈ keys (W β), k < n := fun β k hk => by
    rw [hslots β] at hk
    have := List.all_eq_true.1 hdst k hk
    simp only [Bool.and_eq_true] at this
    simpa using this.1
  have hFT : ∀ β, Fm n ds (W β ++ V) ⟨over a.tmps (W β), a.defers⟩ := fun β => F.over (W β) (hkn β) (hks β)
  refine wpAny_inv (fun d a' w' => Closed ops d ∧ ∃ β, J d β w' ∧ Agree ops a (over a.tmps (W β)) d a' ∧ Orig ops a d a') hd ⟨Closed.none _, β0, h0, ⟨rfl, (over_size _ _).symm, fun t ht => ?_⟩, fun _ _ => rfl⟩ ?_ ?_
  · refine (over_out (W β0) _ _ fun hmem => ?_).symm
    rw [hslots β0] at hmem
    have := List.all_eq_true.1 hdst t hmem
    simp only [Bool.and_eq_true] at this
    obtain ⟨i, hi, h2⟩ := Array.any_eq_true.1 this.2
    have h1 := ht i ops[i] (Array.getElem?_eq_getElem hi) (by simpa using h2)
    rw [Array.getD_eq_getD_getElem?, Array.getElem?_replicate] at h1
    split at h1 <;> cases h1
  · rintro i o d a' w' ho hsz hf hdep ⟨hcl, β, hJ, hA, hO⟩
    have hcl' := hcl.next ho (by rw [hsz]; exact (Array.getElem?_eq_some_iff.1 ho).1) hdep
    obtain ⟨hfg, hfo⟩ := opsFedX_spec hfed ho
    have hslot : ∀ t, fedX ops fu exs i o t = true → ∀ v, lk (rm (exAt exs i) (W β) ++ V) t = some v → a'.tmps[t]? = some v := fun t ht v hv => by
      unfold fedX at ht
      rw [lk_append, lk_rm] at hv
      split at ht
      · rename_i hc
        rw [if_pos hc] at hv
        have hv' : lk V t = some v := hv
        rw [hO t fun k o' hk hd => ?_]
        · exact F.at_ t v hv'
        · have hkl : k < ops.size := (Array.getElem?_eq_some_iff.1 hk).1
          have := List.all_eq_true.1 ht k (List.mem_range.2 hkl)
          rw [hk] at this
          simp only [Option.map_some, Option.getD_some, hd, bne_self_eq_false, Bool.false_or] at this
          exact reach_not hcl hf this
      · rename_i hc
        rw [if_neg hc, ← lk_append] at hv
        rw [hA.slot ht hdep]
        exact (hFT β).at_ t v hv
    have hgd : ∀ j c t v, o.guard = some (j, c) → (ops[j]?).bind (·.dst) = some t → lk (rm (exAt exs i) (W β) ++ V) t = some v → a'.tmps[t]? = some v := fun j c t v hg ht hv => hslot t (hfg j c t hg ht) v hv
    have hex : knownB (rm (exAt exs i) (W β) ++ V) o = true → execOp a'.eval o = execOp (evV (rm (exAt exs i) (W β) ++ V)) o := fun hk => by
      have hk' := hk
      simp only [knownB, Bool.and_eq_true, Bool.not_eq_true'] at hk
      refine execOp_congr o (fun cs b e => ?_) (fun x hx => ?_)
      · rw [e] at hk; simp [isSel] at hk
      · obtain ⟨q, hq, rfl⟩ := Array.mem_iff_getElem.1 hx
        have hkx := Array.all_eq_true.1 hk.2 q hq
        generalize hxx : o.op.operands[q] = x at *
        cases x with
        | tmp t =>
          simp only [knownX] at hkx
          obtain ⟨v, hv⟩ := Option.isSome_iff_exists.1 hkx
          have := hslot t (hfo t (hxx ▸ Array.getElem_mem hq)) v hv
          show a'.tmps.getD t undef = (lk (rm (exAt exs i) (W β) ++ V) t).getD undef
          rw [Array.getD_eq_getD_getElem?, this, hv]
        | _ => rfl
    have hput : ∀ v, (∀ t, o.dst = some t → lk (W β ++ V) t = some v) → Agree ops a (over a.tmps (W β)) (d.setIfInBounds i true) (a'.put o.dst v) := fun v hv =>
      hA.put honce ho hsz fun t ht _ => (hFT β).at_ t v (hv t ht)
    have hnext : ∀ r : SlR, (∀ t, o.dst ≠ some t → lk (W (updS β i r) ++ V) t = lk (W β ++ V) t ∨ ∃ j oj, ops[j]? = some oj ∧ oj.dst = some t ∧ d.getD j false = false) → Agree ops a (over a.tmps (W (updS β i r))) d a' := fun r ht =>
      hA.next2 (T' := over a.tmps (W (updS β i r))) (by rw [over_size, over_size]) (fun t hdone => by
        have hne : o.dst ≠ some t := fun e => by
          have := hdone i o ho e
          rw [getD_tf hf] at this; cases this
        have h2 : lk (W (updS β i r) ++ V) t = lk (W β ++ V) t := by
          rcases ht t hne with h2 | ⟨j, oj, h3, h4, h5⟩
          · exact h2
          · rw [hdone j oj h3 h4] at h5; cases h5
        by_cases hm : t ∈ slots
        · have hs1 : ∃ u, lk (W β) t = some u := by
            rcases hq : lk (W β) t with _ | u
            · exfalso
              have hmem : t ∈ keys (W β) := by rw [hslots β]; exact hm
              have hh : ∀ Z : List (Nat × Value), t ∈ keys Z → lk Z t ≠ none := by
                intro Z
                induction Z with
                | nil => intro h; simp [keys] at h
                | cons p Z ih =>
                  obtain ⟨k, u⟩ := p
                  intro h
                  simp only [lk]
                  cases hb : Nat.beq k t with
                  | true => simp
                  | false =>
                    simp only [keys, List.map_cons, List.mem_cons] at h
                    rcases h with h | h
                    · exact absurd h.symm (Nat.ne_of_beq_eq_false hb)
                    · exact ih h
              exact hh _ hmem hq
            · exact ⟨u, rfl⟩
          obtain ⟨u, hu⟩ := hs1
          have hv1 : lk (W β ++ V) t = some u := by rw [lk_append, hu]; rfl
          have e1 := (hFT β).at_ t u hv1
          have e2 := (hFT (updS β i r)).at_ t u (by rw [h2]; exact hv1)
          exact e2.trans e1.symm
        · rw [over_out _ _ _ (by rw [hslots]; exact hm), over_out _ _ _ (by rw [hslots]; exact hm)])
    have hput2 : ∀ r v, (∀ t, o.dst ≠ some t → lk (W (updS β i r) ++ V) t = lk (W β ++ V) t ∨ ∃ j oj, ops[j]? = some oj ∧ oj.dst = some t ∧ d.getD j false = false) → (∀ t, o.dst = some t → lk (W (updS β i r) ++ V) t = some v) → Agree ops a (over a.tmps (W (updS β i r))) (d.setIfInBounds i true) (a'.put o.dst v) := fun r v ht hv =>
      (hnext r ht).put honce ho hsz fun t htx _ => (hFT _).at_ _ _ (hv t htx)
    cases hop i o ho with
    | val hk hw v hv hr =>
      rw [wants_at (hw β) hgd, if_pos rfl]
      unfold Oper.wp
      obtain ⟨h1, h2⟩ := hr d β w' hcl hf hdep hJ
      rw [hex (hk β), h1, Oper.upon_value]
      exact ⟨hcl', β, h2, hput _ (hv β), hO.put ho hf _⟩
    | call hk hw v hv f args hr hc =>
      rw [wants_at (hw β) hgd, if_pos rfl]
      unfold Oper.wp
      rw [hex (hk β), hr β w', Oper.upon_enter]
      exact (hc d β w' hcl hf hdep hJ).mono fun e w2 ⟨he2, hJ2⟩ => by subst he2; exact ⟨hcl', β, hJ2, hput _ (hv β), hO.put ho hf _⟩
    | callX hk hw v hv ht f args hr hc =>
      rw [wants_at (hw β) hgd, if_pos rfl]
      unfold Oper.wp
      rw [hex (hk β), hr β w', Oper.upon_enter]
      exact (hc d β w' hcl hf hdep hJ).mono fun e w2 ⟨r, he2, hJ2⟩ => by subst he2; exact ⟨hcl', _, hJ2, hput2 r _ (fun t hne => (ht β r t hne).imp (fun hz => hz) fun hq => hq d hcl hf) (hv β r), hO.put ho hf _⟩
    | fresh hk hw v hv ht hr =>
      rw [wants_at (hw β) hgd, if_pos rfl]
      obtain ⟨r, w2, h1, h2⟩ := hr d β w' hcl hf hdep hJ
      unfold Oper.wp
      rw [hex (hk β), h1, Oper.upon_value]
      exact ⟨hcl', _, h2, hput2 r _ (fun t hne => (ht β r t hne).imp (fun hz => hz) fun hq => hq d hcl hf) (hv β r), hO.put ho hf _⟩
    | store hk hw hx hr =>
      rw [wants_at (hw β) hgd, if_pos rfl]
      obtain ⟨w'', h1, h2⟩ := hr d β w' hcl hf hdep hJ
      unfold Oper.wp
      rw [hex (hk β), h1, Oper.upon_skip]
      exact ⟨hcl', β, h2, hput _ (fun t ht => by rw [hx] at ht; cases ht), hO.put ho hf _⟩
    | skip hw hv hJn =>
      rw [wants_at (hw β) hgd, if_neg (by simp)]
      exact ⟨hcl', β, hJn d β w' hJ, hput _ (hv β), hO.put ho hf _⟩
  · rintro d a' w' hsz hall ⟨_, β, hJ, hA, _⟩
    have : a' = ⟨over a.tmps (W β), a.defers⟩ := by
      obtain ⟨tm, df⟩ := a'
      have h1 : tm = over a.tmps (W β) := Array.ext_getElem? fun t => hA.at_ t fun i o ho _ => hall i (Array.getElem?_eq_some_iff.1 ho).1
      have h2 : df = a.defers := hA.df
      rw [h1, h2]
    rw [this]
    exact he d β _ w' hall hJ (hFT β)
end

/-! ### Blocks within a region -/
structure Sg where
  i : Nat
  dep : List Nat
  R : List SlR → Obj
  q : List SlR → Prop
def Sg.Rb (s : Sg) (β : Nat → SlR) : Obj := s.R (s.dep.map β)
def Sg.qb (s : Sg) (β : Nat → SlR) : Prop := s.q (s.dep.map β)
/-- A block: made by operation al (or there from the start), written by its stages, let go by kl. -/
structure TB where
  al : Option Nat
  kl : Option Nat
  ad : Nat
  dep : List Nat
  Z : List SlR → Obj
  q : List SlR → Prop
  sts : List Sg
def r0 : SlR := ⟨0, 0, [], 0⟩
def gh (l : List SlR) (k : Nat) : SlR := l.getD k r0
def TB.adr (b : TB) (β : Nat → SlR) : Nat := match b.al with | none => b.ad | some i => (β i).g
def TB.z0 (b : TB) (β : Nat → SlR) : Obj := b.Z (b.dep.map β)
def TB.qb (b : TB) (β : Nat → SlR) : Prop := b.q (b.dep.map β)
def alD (d : Array Bool) (b : TB) : Bool := match b.al with | none => true | some j => d.getD j false
def contF (d : Array Bool) (β : Nat → SlR) : Obj → List Sg → Obj
  | c, [] => c
  | c, s :: l => if d.getD s.i false = true then contF d β (s.Rb β) l else c
def contM (β : Nat → SlR) : Obj → List Sg → Nat → Obj
  | c, _, 0 => c
  | c, [], _ + 1 => c
  | _, s :: l, m + 1 => contM β (s.Rb β) l m
def TB.born (d : Array Bool) (b : TB) : Bool := (match b.al with | none => true | some i => d.getD i false) && (match b.kl with | none => true | some i => !d.getD i false)
def TB.blk (d : Array Bool) (β : Nat → SlR) (b : TB) : Blk := ⟨true, b.adr β, contF d β (b.z0 β) b.sts⟩
def TB.blkM (β : Nat → SlR) (m : Nat) (b : TB) : Blk := ⟨true, b.adr β, contM β (b.z0 β) b.sts m⟩
def Lof (T : List TB) (L : List Blk) (d : Array Bool) (β : Nat → SlR) : List Blk := (T.filter (TB.born d)).map (TB.blk d β) ++ L
structure J2 (X : List Nat) (w0 : World) (T : List TB) (L : List Blk) (d : Array Bool) (β : Nat → SlR) (w : World) : Prop where
  sz : ∀ b ∈ T, ∀ s ∈ b.sts, s.i < d.size
  hp : Hp X w0 (Lof T L d β) w
  q : ∀ b ∈ T, alD d b = true → b.qb β
  qs : ∀ b ∈ T, ∀ s ∈ b.sts, d.getD s.i false = true → s.qb β
def neO (o : Option Nat) (i : Nat) : Bool := match o with | none => true | some j => !Nat.beq j i
def freeB (i : Nat) (b : TB) : Bool := neO b.al i && neO b.kl i && b.sts.all fun s => !Nat.beq s.i i
theorem neO_spec {o : Option Nat} {i : Nat} (h : neO o i = true) : o ≠ some i := by
  rintro rfl
  simp [neO] at h
theorem freeB_spec {i : Nat} {b : TB} (h : freeB i b = true) : b.al ≠ some i ∧ b.kl ≠ some i ∧ ∀ s ∈ b.sts, s.i ≠ i := by
  simp only [freeB, Bool.and_eq_true, List.all_eq_true, Bool.not_eq_true'] at h
  exact ⟨neO_spec h.1.1, neO_spec h.1.2, fun s hs => Nat.ne_of_beq_eq_false (h.2 s hs)⟩
theorem getD_off2 {d : Array Bool} {i j : Nat} (h : j ≠ i) (c : Bool) : (d.setIfInBounds i true).getD j c = d.getD j c := by
  rw [Array.getD_eq_getD_getElem?, Array.getD_eq_getD_getElem?, Array.getElem?_setIfInBounds, if_neg (fun e => h e.symm)]
theorem getD_on {d : Array Bool} {i : Nat} (h : d.getD i true = false) : (d.setIfInBounds i true).getD i false = true := by
  have hi : i < d.size := by
    rcases Nat.lt_or_ge i d.size with h' | h'
    · exact h'
    · rw [Array.getD_eq_getD_getElem?, Array.getElem?_eq_none h'] at h; cases h
  rw [Array.getD_eq_getD_getElem?, Array.getElem?_setIfInBounds, if_pos rfl, if_pos hi]; rfl
section
variable {d : Array Bool} {β : Nat → SlR} {i : Nat} {r : SlR} {T : List TB} {L : List Blk} {X : List Nat} {w0 w : World}
/-- What a change at i leaves alone. -/
structure DepF (d : Array Bool) (β : Nat → SlR) (i : Nat) (r : SlR) (b : TB) : Prop where
  z : alD d b = true → b.dep.map (updS β i r) = b.dep.map β
  s : ∀ s ∈ b.sts, d.getD s.i false = true → s.dep.map (updS β i r) = s.dep.map β
theorem contF_free : ∀ {l : List Sg} {c : Obj}, (∀ s ∈ l, s.i ≠ i) → (∀ s ∈ l, d.getD s.i false = true → s.dep.map (updS β i r) = s.dep.map β) → contF (d.setIfInBounds i true) (updS β i r) c l = contF d β c l
  | [], _, _, _ => rfl
  | s :: l, c, h, h3 => by
    have h1 := h s (List.mem_cons_self ..)
    rw [contF, contF, getD_off2 h1]
    split
    · rename_i hd
      have e : s.Rb (updS β i r) = s.Rb β := by unfold Sg.Rb; rw [h3 s (List.mem_cons_self ..) hd]
      rw [e]
      exact contF_free (fun s hs => h s (List.mem_cons_of_mem _ hs)) (fun s hs => h3 s (List.mem_cons_of_mem _ hs))
    · rfl
theorem TB.adr_free {b : TB} (h : b.al ≠ some i) : b.adr (updS β i r) = b.adr β := by
  unfold TB.adr
  cases hq : b.al with
  | none => rfl
  | some j => dsimp only; rw [updS_off]; rintro rfl; exact h hq
theorem born_al {b : TB} (h : b.born d = true) : alD d b = true := by
  unfold TB.born at h
  simp only [Bool.and_eq_true] at h
  unfold alD
  cases hq : b.al with
  | none => rfl
  | some j => have := h.1; rw [hq] at this; exact this
theorem TB.blk_free {b : TB} (h : freeB i b = true) (hd : DepF d β i r b) (hb : b.born d = true) : b.blk (d.setIfInBounds i true) (updS β i r) = b.blk d β := by
  obtain ⟨h1, h2, h3⟩ := freeB_spec h
  unfold TB.blk TB.z0
  rw [TB.adr_free h1, hd.z (born_al hb), contF_free h3 hd.s]
theorem TB.born_free {b : TB} (h1 : b.al ≠ some i) (h2 : b.kl ≠ some i) : b.born (d.setIfInBounds i true) = b.born d := by
  unfold TB.born
  have e1 : ∀ o : Option Nat, o ≠ some i → ∀ j, o = some j → (d.setIfInBounds i true).getD j false = d.getD j false := fun o ho j hj => getD_off2 (by rintro rfl; exact ho hj) _
  cases hq : b.al with
  | none =>
    cases hk : b.kl with
    | none => rfl
    | some j => dsimp only; rw [e1 _ h2 j hk]
  | some j =>
    cases hk : b.kl with
    | none => dsimp only; rw [e1 _ h1 j hq]
    | some k => dsimp only; rw [e1 _ h1 j hq, e1 _ h2 k hk]
theorem Lof_free : ∀ {T : List TB}, T.all (freeB i) = true → (∀ b ∈ T, DepF d β i r b) → Lof T L (d.setIfInBounds i true) (updS β i r) = Lof T L d β
  | [], _, _ => rfl
  | b :: T, h, hD => by
    simp only [List.all_cons, Bool.and_eq_true] at h
    have ih := Lof_free (T := T) h.2 (fun c hc => hD c (List.mem_cons_of_mem _ hc))
    obtain ⟨h1, h2, h3⟩ := freeB_spec h.1
    unfold Lof at ih ⊢
    rw [List.filter_cons, List.filter_cons, TB.born_free h1 h2]
    split
    · rename_i hb
      rw [List.map_cons, List.map_cons, List.cons_append, List.cons_append, ih, TB.blk_free h.1 (hD b (List.mem_cons_self ..)) hb]
    · exact ih
theorem updS_self (β : Nat → SlR) (i : Nat) : updS β i (β i) = β := by
  funext k
  unfold updS
  split
  · rename_i e; rw [e]
  · rfl
theorem Lof_free0 {T : List TB} (h : T.all (freeB i) = true) : Lof T L (d.setIfInBounds i true) β = Lof T L d β := by
  have := Lof_free (d := d) (β := β) (r := β i) (L := L) h (fun b _ => ⟨fun _ => by rw [updS_self], fun _ _ _ => by rw [updS_self]⟩)
  rwa [updS_self] at this
theorem Hp.perm {L' : List Blk} (H : Hp X w0 L w) (h : L.Perm L') : Hp X w0 L' w :=
  ⟨H.kept, fun q hq => H.held q (h.mem_iff.2 hq), fun q hq => H.own q (h.mem_iff.2 hq), (h.pairwise_iff (fun h => Ne.symm h)).1 H.far⟩
theorem Lof_perm {T' : List TB} (h : T.Perm T') : (Lof T L d β).Perm (Lof T' L d β) := ((h.filter _).map _).append_right _
theorem Lof_born {b : TB} (h : b.born d = true) : Lof (b :: T) L d β = b.blk d β :: Lof T L d β := by
  unfold Lof; rw [List.filter_cons, if_pos h]; rfl
theorem Lof_gone {b : TB} (h : b.born d = false) : Lof (b :: T) L d β = Lof T L d β := by
  unfold Lof; rw [List.filter_cons, if_neg (by rw [h]; simp)]
theorem perm_erase : ∀ {T : List TB} {k : Nat} {b : TB}, T[k]? = some b → T.Perm (b :: T.eraseIdx k)
  | [], k, b, h => by simp at h
  | c :: T, 0, b, h => by simp at h; subst h; exact .refl _
  | c :: T, k + 1, b, h => by
    have := perm_erase (T := T) (k := k) (b := b) (by simpa using h)
    exact (this.cons c).trans (List.Perm.swap _ _ _)
end
/-- The first m stages are done when i is carried out, no other one. -/
def stgB (ops : Array Oper) (fu i : Nat) : List Sg → Nat → Bool
  | [], m => Nat.beq m 0
  | s :: l, 0 => reachB ops fu s.i i
  | s :: l, m + 1 => reachB ops fu i s.i && stgB ops fu i l m
def rdB (ops : Array Oper) (T : List TB) (fu i : Nat) : List (Nat × Nat) → Bool
  | [] => true
  | (k, m) :: l => (match T[k]? with
    | some b => (match b.al with | none => true | some j => reachB ops fu i j) && (match b.kl with | none => true | some j => reachB ops fu j i) && stgB ops fu i b.sts m
    | none => false) && rdB ops T fu i l
def rdL (T : List TB) (β : Nat → SlR) : List (Nat × Nat) → List Blk
  | [] => []
  | (k, m) :: l => (match T[k]? with | some b => [b.blkM β m] | none => []) ++ rdL T β l
def qst (β : Nat → SlR) : List Sg → Nat → Prop
  | _, 0 => True
  | [], _ + 1 => True
  | s :: l, m + 1 => s.qb β ∧ qst β l m
def QF (T : List TB) (β : Nat → SlR) : List (Nat × Nat) → Prop
  | [] => True
  | (k, m) :: l => (match T[k]? with | some b => b.qb β ∧ qst β b.sts m | none => True) ∧ QF T β l
section
variable {ops : Array Oper} {d : Array Bool} {β : Nat → SlR} {i : Nat} {T : List TB} {L : List Blk} {X : List Nat} {w0 w : World} {fu : Nat} {o : Oper}
theorem contF_at (hcl : Closed ops d) (ho : ops[i]? = some o) (hf : d.getD i true = false) (hdep : ∀ e ∈ o.after, Region.binds .any e = true → d.getD e.on false = true) : ∀ {l : List Sg} {m : Nat} {c : Obj}, stgB ops fu i l m = true → contF d β c l = contM β c l m
  | [], m, c, h => by
    rw [Nat.eq_of_beq_eq_true h]; rfl
  | s :: l, 0, c, h => by
    rw [contF, if_neg (by rw [reach_not hcl hf h]; simp)]; rfl
  | s :: l, m + 1, c, h => by
    simp only [stgB, Bool.and_eq_true] at h
    rw [contF, if_pos (reach_dep hcl ho hdep h.1), contF_at hcl ho hf hdep h.2]; rfl
theorem qst_at (hcl : Closed ops d) (ho : ops[i]? = some o) (hdep : ∀ e ∈ o.after, Region.binds .any e = true → d.getD e.on false = true) : ∀ {l : List Sg} {m : Nat}, (∀ s ∈ l, d.getD s.i false = true → s.qb β) → stgB ops fu i l m = true → qst β l m
  | [], 0, _, h => trivial
  | [], m + 1, _, h => trivial
  | s :: l, 0, _, h => trivial
  | s :: l, m + 1, hq, h => by
    simp only [stgB, Bool.and_eq_true] at h
    exact ⟨hq s (List.mem_cons_self ..) (reach_dep hcl ho hdep h.1), qst_at hcl ho hdep (fun s hs => hq s (List.mem_cons_of_mem _ hs)) h.2⟩
theorem J2.reads (h : J2 X w0 T L d β w) (hcl : Closed ops d) (ho : ops[i]? = some o) (hf : d.getD i true = false) (hdep : ∀ e ∈ o.after, Region.binds .any e = true → d.getD e.on false = true) : ∀ {rd : List (Nat × Nat)}, rdB ops T fu i rd = true → HeldL (rdL T β rd ++ L) w ∧ QF T β rd
  | [], _ => ⟨⟨fun p hp => h.hp.held p (List.mem_append_right _ hp)⟩, trivial⟩
  | (k, m) :: rd, hr => by
    simp only [rdB, Bool.and_eq_true] at hr
    obtain ⟨h1, h2⟩ := J2.reads h hcl ho hf hdep hr.2
    cases hT : T[k]? with
    | none => rw [hT] at hr; simp at hr
    | some b =>
      have hb := List.mem_of_getElem? hT
      rw [hT] at hr
      simp only [Bool.and_eq_true] at hr
      obtain ⟨⟨⟨r1, r2⟩, r3⟩, _⟩ := hr
      have e1 : (match b.al with | none => true | some j => d.getD j false) = true := by
        cases hq : b.al with
        | none => rfl
        | some j => rw [hq] at r1; exact reach_dep hcl ho hdep r1
      have e2 : (match b.kl with | none => true | some j => !d.getD j false) = true := by
        cases hq : b.kl with
        | none => rfl
        | some j => rw [hq] at r2; dsimp only; rw [reach_not hcl hf r2]; rfl
      have hborn : b.born d = true := Bool.and_eq_true_iff.2 ⟨e1, e2⟩
      have hm : b.blk d β ∈ Lof T L d β := List.mem_append_left _ (List.mem_map_of_mem (List.mem_filter.2 ⟨hb, hborn⟩))
      have hblk : b.blk d β = b.blkM β m := by
        unfold TB.blk TB.blkM
        rw [contF_at hcl ho hf hdep r3]
      refine ⟨⟨fun p hp => ?_⟩, ?_⟩
      · simp only [rdL, hT, List.cons_append, List.nil_append, List.mem_cons] at hp
        rcases hp with rfl | hp
        · rw [← hblk]; exact h.hp.held _ hm
        · exact h1.held p hp
      · refine ⟨?_, h2⟩
        rw [hT]
        exact ⟨h.q b hb (born_al hborn), qst_at hcl ho hdep (h.qs b hb) r3⟩
theorem J2.quiet (h : J2 X w0 T L d β w) (hfr : T.all (freeB i) = true) {w' : World} (k : Kept [] w w') : J2 X w0 T L (d.setIfInBounds i true) β w' := by
  refine ⟨fun b hb s hs => by rw [Array.size_setIfInBounds]; exact h.sz b hb s hs, ?_, fun b hb hd => ?_, fun b hb s hs hd => ?_⟩
  · rw [Lof_free0 hfr]; exact h.hp.call k
  · obtain ⟨f1, f2, f3⟩ := freeB_spec (List.all_eq_true.1 hfr b hb)
    refine h.q b hb ?_
    unfold alD at hd ⊢
    cases hq : b.al with
    | none => rfl
    | some j => rw [hq] at hd; dsimp only at hd ⊢; rwa [getD_off2 (by rintro rfl; exact f1 hq)] at hd
  · obtain ⟨f1, f2, f3⟩ := freeB_spec (List.all_eq_true.1 hfr b hb)
    rw [getD_off2 (f3 s hs)] at hd
    exact h.qs b hb s hs hd
/-- What changes at i: b1 is made (if any), b0 written (if any), bk let go (if any). -/
theorem J2.q_next {w' : World} (h : J2 X w0 T L d β w) (r : SlR) (hD : ∀ b ∈ T, DepF d β i r b) (hq : ∀ b ∈ T, b.al = some i → b.qb (updS β i r)) (hqs : ∀ b ∈ T, ∀ s ∈ b.sts, s.i = i → s.qb (updS β i r)) (hp : Hp X w0 (Lof T L (d.setIfInBounds i true) (updS β i r)) w') : J2 X w0 T L (d.setIfInBounds i true) (updS β i r) w' := by
  refine ⟨fun b hb s hs => by rw [Array.size_setIfInBounds]; exact h.sz b hb s hs, hp, fun b hb hd => ?_, fun b hb s hs hd => ?_⟩
  · by_cases e : b.al = some i
    · exact hq b hb e
    · have hd' : alD d b = true := by
        unfold alD at hd ⊢
        cases hal : b.al with
        | none => rfl
        | some j => rw [hal] at hd; dsimp only at hd ⊢; rwa [getD_off2 (by rintro rfl; exact e hal)] at hd
      have := h.q b hb hd'
      unfold TB.qb at this ⊢
      rwa [(hD b hb).z hd']
  · by_cases e : s.i = i
    · exact hqs b hb s hs e
    · rw [getD_off2 e] at hd
      have := h.qs b hb s hs hd
      unfold Sg.qb at this ⊢
      rwa [(hD b hb).s s hs hd]
/-- Nothing that is there hangs on what i draws. -/
def dOK (ops : Array Oper) (fu i : Nat) (b : TB) : Bool := (!b.dep.contains i || (match b.al with | some j => Nat.beq j i || reachB ops fu j i | none => false)) && b.sts.all fun s => !s.dep.contains i || Nat.beq s.i i || reachB ops fu s.i i
theorem map_upd {r : SlR} {l : List Nat} (h : l.contains i = false) : l.map (updS β i r) = l.map β :=
  List.map_congr_left fun k hk => updS_off _ _ (by rintro rfl; rw [List.contains_iff_mem.2 hk] at h; cases h)
theorem dOK_spec {r : SlR} {b1 : TB} (hcl : Closed ops d) (hf : d.getD i true = false) (h : dOK ops fu i b1 = true) : DepF d β i r b1 := by
  simp only [dOK, Bool.and_eq_true, List.all_eq_true] at h
  obtain ⟨h1, h2⟩ := h
  refine ⟨fun hal => ?_, fun s hs hd => ?_⟩
  · cases hc : b1.dep.contains i with
    | false => exact map_upd hc
    | true =>
      rw [hc] at h1
      simp only [Bool.not_true, Bool.false_or] at h1
      exfalso
      unfold alD at hal
      cases hq : b1.al with
      | none => rw [hq] at h1; cases h1
      | some j =>
        rw [hq] at h1 hal
        simp only [Bool.or_eq_true] at h1
        dsimp only at hal
        rcases h1 with h1 | h1
        · rw [Nat.eq_of_beq_eq_true h1, getD_tf hf] at hal; cases hal
        · rw [reach_not hcl hf h1] at hal; cases hal
  · cases hc : s.dep.contains i with
    | false => exact map_upd hc
    | true =>
      have h3 := h2 s hs
      rw [hc] at h3
      simp only [Bool.not_true, Bool.false_or, Bool.or_eq_true] at h3
      exfalso
      rcases h3 with h3 | h3
      · rw [Nat.eq_of_beq_eq_true h3, getD_tf hf] at hd; cases hd
      · rw [reach_not hcl hf h3] at hd; cases hd
end
end Go.Proofs.Ytlnlppmhiobgjaa
