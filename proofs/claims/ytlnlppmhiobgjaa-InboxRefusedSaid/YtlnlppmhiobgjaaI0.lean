/- Regions that draw their order and make memory: one invariant serves every order. -/
import Derived.Deep.Quiet
import Derived.Below
import Derived.RegionTactic
set_option linter.unusedVariables false
set_option linter.unusedSimpArgs false
namespace Go.Proofs.Ytlnlppmhiobgjaa
open Go Go.RowKit

section
variable {P : Program} {ops : Array Oper}

/-- Every edge leads to an earlier operation. -/
def edgesDown (ops : Array Oper) : Bool := (List.range ops.size).all fun i => ((ops[i]?).map fun o => o.after.all fun e => !(Region.binds .any e) || decide (e.on < i)).getD true
theorem edgesDown_spec (h : edgesDown ops = true) {i : Nat} {o : Oper} (ho : ops[i]? = some o) : ∀ e ∈ o.after, Region.binds .any e = true → e.on < i := by
  intro e he hbd
  have hi : i < ops.size := (Array.getElem?_eq_some_iff.1 ho).1
  have := List.all_eq_true.1 h i (List.mem_range.2 hi)
  rw [ho] at this
  simp only [Option.map_some, Option.getD_some] at this
  obtain ⟨k, hk, rfl⟩ := Array.mem_iff_getElem.1 he
  have := Array.all_eq_true.1 this k hk
  simpa [hbd] using this
theorem ready_mem {listed : Array Bool} {i : Nat} : i ∈ Region.ready .any ops listed ↔ i < ops.size ∧ listed.getD i true = false ∧ ∃ o, ops[i]? = some o ∧ ∀ e ∈ o.after, Region.binds .any e = true → listed.getD e.on false = true := by
  unfold Region.ready
  rw [List.mem_filter, List.mem_range]
  refine and_congr_right fun hi => ?_
  rw [Bool.and_eq_true, Bool.not_eq_true']
  refine and_congr_right fun _ => ?_
  obtain ⟨o, ho⟩ : ∃ o, ops[i]? = some o := ⟨_, Array.getElem?_eq_getElem hi⟩
  rw [ho]
  simp only [Option.map_some, Option.getD_some]
  constructor
  · intro h
    refine ⟨o, rfl, fun e he hb => ?_⟩
    obtain ⟨k, hk, rfl⟩ := Array.mem_iff_getElem.1 he
    have := Array.all_eq_true.1 h k hk
    simpa [hb] using this
  · rintro ⟨o', ho', h⟩
    cases ho'
    refine Array.all_eq_true.2 fun k hk => ?_
    have := h _ (Array.getElem_mem hk)
    cases hb : Region.binds .any o.after[k]
    · simp [hb]
    · simp [hb, this hb]
theorem ready_some {listed : Array Bool} (hs : listed.size = ops.size) (hd : edgesDown ops = true) : ∀ k, k < ops.size → listed.getD k true = false → Region.ready .any ops listed ≠ [] := by
  intro k
  induction k using Nat.strongRecOn with
  | _ k ih =>
    intro hk hf
    obtain ⟨o, ho⟩ : ∃ o, ops[k]? = some o := ⟨_, Array.getElem?_eq_getElem hk⟩
    by_cases h : ∀ e ∈ o.after, Region.binds .any e = true → listed.getD e.on false = true
    · exact List.ne_nil_of_mem (ready_mem.2 ⟨hk, hf, o, ho, h⟩)
    · have h' : ∃ e ∈ o.after, Region.binds .any e = true ∧ ¬ (listed.getD e.on false = true) := by
        refine Classical.byContradiction fun hn => h fun e he hbd => ?_
        exact Classical.byContradiction fun hc => hn ⟨e, he, hbd, hc⟩
      obtain ⟨e, he, hbd, hc⟩ := h'
      have hlt := edgesDown_spec hd ho e he hbd
      refine ih e.on hlt (by omega) ?_
      have hl : e.on < listed.size := by omega
      simp only [Array.getD, hl, ↓reduceDIte] at hc ⊢
      simpa using hc

theorem all_of_count {l : List Bool} (h : l.count false = 0) : ∀ i, i < l.length → l[i]? = some true := by
  intro i hi
  have := List.count_eq_zero.1 h
  rw [List.getElem?_eq_getElem hi]
  cases hb : l[i] with
  | true => rfl
  | false => exact absurd (hb ▸ List.getElem_mem hi) this
theorem some_of_count {l : List Bool} (h : 0 < l.count false) : ∃ i, i < l.length ∧ l[i]? = some false := by
  obtain ⟨i, hi, he⟩ := List.mem_iff_getElem.1 (List.count_pos_iff.1 h)
  exact ⟨i, hi, by rw [List.getElem?_eq_getElem hi, he]⟩

/-- One invariant over what is done serves every order. -/
theorem wpAny_inv {a : Act} {w : World} {Q : Exit → Act → World → Prop} (I : Array Bool → Act → World → Prop) (hd : edgesDown ops = true)
    (h0 : I (Array.replicate ops.size false) a { w with drawn := w.drawn + 1 })
    (hs : ∀ i o d a w, ops[i]? = some o → d.size = ops.size → d.getD i true = false → (∀ e ∈ o.after, Region.binds .any e = true → d.getD e.on false = true) → I d a w →
      if Region.wanted o (yielded ops a.tmps) = true then o.wp P a w (I (d.setIfInBounds i true)) Q else I (d.setIfInBounds i true) (a.put o.dst undef) w)
    (he : ∀ d a w, d.size = ops.size → (∀ i, i < ops.size → d.getD i false = true) → I d a w → Q .normal a w) :
    wpAny P .any ops Q ops.size (Array.replicate ops.size false) a { w with drawn := w.drawn + 1 } := by
  have key : ∀ fuel d a w, d.size = ops.size → d.toList.count false = fuel → I d a w → wpAny P .any ops Q fuel d a w := by
    intro fuel
    induction fuel with
    | zero =>
      intro d a w hsz hc hI
      have hall : ∀ i, i < ops.size → d.getD i false = true := by
        intro i hi
        have h1 := all_of_count hc i (by simpa [hsz] using hi)
        have hi' : i < d.size := by omega
        simp only [Array.getD, hi', ↓reduceDIte]
        rw [Array.getElem?_toList, Array.getElem?_eq_getElem hi'] at h1
        simpa using h1
      refine ⟨?_, he d a w hsz hall hI⟩
      refine List.eq_nil_iff_forall_not_mem.2 fun i hi => ?_
      obtain ⟨h1, h2, _⟩ := ready_mem.1 hi
      have h3 := hall i h1
      have hi' : i < d.size := by omega
      simp only [Array.getD, hi', ↓reduceDIte] at h2 h3
      rw [h2] at h3
      cases h3
    | succ fuel ih =>
      intro d a w hsz hc hI
      refine ⟨fun hr => ?_, fun i hi => ?_⟩
      · obtain ⟨k, hk, hf⟩ := some_of_count (l := d.toList) (by omega)
        have hk' : k < d.size := by simpa using hk
        refine absurd hr (ready_some hsz hd k (by omega) ?_)
        rw [Array.getElem?_toList, Array.getElem?_eq_getElem hk'] at hf
        simp only [Array.getD, hk', ↓reduceDIte]
        simpa using hf
      · obtain ⟨h1, h2, o, ho, h3⟩ := ready_mem.1 hi
        have hi' : i < d.size := by omega
        have hcc : (d.setIfInBounds i true).toList.count false = fuel := by
          simp only [Array.getD, hi', ↓reduceDIte] at h2
          rw [Array.toList_setIfInBounds, List.count_set (by simpa using hi')]
          have e : d.toList[i]'(by simpa using hi') = false := by simpa using h2
          rw [e, hc]
          rfl
        have hst := hs i o d a w ho hsz h2 h3 hI
        refine wpOp_step ho fun K' hK' => ?_
        split
        · rename_i hw
          rw [if_pos hw] at hst
          exact Oper.wp_mono (fun a w hI' => hK' a w (ih _ a w (by simpa using hsz) hcc hI')) hst
        · rename_i hw
          rw [if_neg hw] at hst
          exact hK' _ _ (ih _ _ w (by simpa using hsz) hcc hst)
  exact key _ _ _ _ (by simp) (by simp) h0

/-! ### Frames: what each slot holds at the end, the new blocks' numbers being open -/
theorem wp_region_inv {id : Nat} {a : Act} {w : World} {Q : Exit → Act → World → Prop} (I : Array Bool → Act → World → Prop) (hm : P.follows .mixedOrders = true) (hd : edgesDown ops = true)
    (h0 : I (Array.replicate ops.size false) a { w with drawn := w.drawn + 1 })
    (hs : ∀ i o d a w, ops[i]? = some o → d.size = ops.size → d.getD i true = false → (∀ e ∈ o.after, Region.binds .any e = true → d.getD e.on false = true) → I d a w →
      if Region.wanted o (yielded ops a.tmps) = true then o.wp P a w (I (d.setIfInBounds i true)) Q else I (d.setIfInBounds i true) (a.put o.dst undef) w)
    (he : ∀ d a w, d.size = ops.size → (∀ i, i < ops.size → d.getD i false = true) → I d a w → Q .normal a w) :
    (Code.region id ops true).wp P Q a w :=
  wp_region_any hm (wpAny_inv I hd h0 hs he)
/-- What an operation reads comes of operations that bind it. -/
def opsFed (ops : Array Oper) : Bool := (List.range ops.size).all fun i => ((ops[i]?).map fun o => o.guard.isNone && o.op.operands.all fun x =>
  match x with
  | .tmp t => (List.range ops.size).all fun k => ((ops[k]?).map fun o' => o'.dst != some t || o.after.any fun e => Region.binds .any e && e.on == k).getD true
  | _ => true).getD true
/-- No slot is written twice. -/
def opsOnce (ops : Array Oper) : Bool := (List.range ops.size).all fun i => (List.range ops.size).all fun k => i == k ||
  (((ops[i]?).bind (·.dst)).map fun t => (ops[k]?).bind (·.dst) != some t).getD true

theorem opsFed_spec (h : opsFed ops = true) {i : Nat} {o : Oper} (ho : ops[i]? = some o) : o.guard = none ∧ ∀ t, .tmp t ∈ o.op.operands → ∀ k o', ops[k]? = some o' → o'.dst = some t → ∃ e ∈ o.after, Region.binds .any e = true ∧ e.on = k := by
  have hi : i < ops.size := (Array.getElem?_eq_some_iff.1 ho).1
  have h1 := List.all_eq_true.1 h i (List.mem_range.2 hi)
  rw [ho] at h1
  simp only [Option.map_some, Option.getD_some, Bool.and_eq_true, Option.isNone_iff_eq_none] at h1
  refine ⟨h1.1, fun t ht k o' hk hd => ?_⟩
  obtain ⟨j, hj, he⟩ := Array.mem_iff_getElem.1 ht
  have h2 := Array.all_eq_true.1 h1.2 j hj
  rw [he] at h2
  have hk' : k < ops.size := (Array.getElem?_eq_some_iff.1 hk).1
  have h3 := List.all_eq_true.1 h2 k (List.mem_range.2 hk')
  rw [hk] at h3
  simp only [Option.map_some, Option.getD_some, hd, bne_self_eq_false, Bool.false_or] at h3
  obtain ⟨e, he1, he2⟩ := Array.any_eq_true'.1 h3
  simp only [Bool.and_eq_true, beq_iff_eq] at he2
  exact ⟨e, he1, he2.1, he2.2⟩
/-- The slots written over the frame. -/
def over (t : Array Value) (W : List (Nat × Value)) : Array Value := W.foldl (fun t p => t.setIfInBounds p.1 p.2) t
theorem over_size (W : List (Nat × Value)) : ∀ t : Array Value, (over t W).size = t.size := by
  induction W with
  | nil => intro t; rfl
  | cons p W ih => intro t; show (over (t.setIfInBounds p.1 p.2) W).size = _; rw [ih]; simp

/-- The frame a agrees with the last one, T, where all has been written. -/
structure Agree (ops : Array Oper) (a0 : Act) (T : Array Value) (d : Array Bool) (a : Act) : Prop where
  df : a.defers = a0.defers
  sz : a.tmps.size = T.size
  at_ : ∀ t, (∀ i o, ops[i]? = some o → o.dst = some t → d.getD i false = true) → a.tmps[t]? = T[t]?

theorem Agree.eval {a0 : Act} {T : Array Value} {d : Array Bool} {a : Act} (h : Agree ops a0 T d a) (hfed : opsFed ops = true) {i : Nat} {o : Oper} (ho : ops[i]? = some o)
    (hdep : ∀ e ∈ o.after, Region.binds .any e = true → d.getD e.on false = true) : ∀ x ∈ o.op.operands, a.eval x = (⟨T, a0.defers⟩ : Act).eval x := by
  intro x hx
  cases x with
  | tmp t =>
    have := h.at_ t (fun k o' hk hd => by
      obtain ⟨e, he, hb, rfl⟩ := (opsFed_spec hfed ho).2 t hx k o' hk hd
      exact hdep e he hb)
    show a.tmps.getD t undef = T.getD t undef
    rw [Array.getD_eq_getD_getElem?, Array.getD_eq_getD_getElem?, this]
  | _ => rfl
theorem getD_set {d : Array Bool} {i j : Nat} (hi : i < d.size) : (d.setIfInBounds i true).getD j false = if j = i then true else d.getD j false := by
  rw [Array.getD_eq_getD_getElem?, Array.getD_eq_getD_getElem?, Array.getElem?_setIfInBounds]
  by_cases h : i = j
  · subst h; simp [hi]
  · rw [if_neg h, if_neg (fun e => h e.symm)]
theorem Agree.put {a0 : Act} {T : Array Value} {d : Array Bool} {a : Act} (h : Agree ops a0 T d a) (honce : opsOnce ops = true) {i : Nat} {o : Oper} (ho : ops[i]? = some o) (hsz : d.size = ops.size) {v : Value}
    (hv : ∀ t, o.dst = some t → t < T.size → T[t]? = some v) : Agree ops a0 T (d.setIfInBounds i true) (a.put o.dst v) := by
  have hi : i < d.size := by rw [hsz]; exact (Array.getElem?_eq_some_iff.1 ho).1
  refine ⟨?_, ?_, ?_⟩
  · rw [← h.df]; cases o.dst <;> rfl
  · rw [← h.sz]; cases o.dst <;> simp [Act.put]
  · intro t ht
    have hold : o.dst ≠ some t → a.tmps[t]? = T[t]? := fun hne => h.at_ t fun k o' hk hd => by
      have := ht k o' hk hd
      rw [getD_set hi] at this
      by_cases e : k = i
      · subst e; rw [ho] at hk; cases hk; exact absurd hd hne
      · rwa [if_neg e] at this
    cases hd : o.dst with
    | none => exact hold (by rw [hd]; simp)
    | some x =>
      by_cases e : x = t
      · subst e
        show (a.tmps.setIfInBounds x v)[x]? = _
        by_cases hlt : x < T.size
        · rw [hv x hd hlt, Array.getElem?_setIfInBounds]; simp [h.sz, hlt]
        · have hle : T.size ≤ x := Nat.le_of_not_lt hlt
          rw [Array.getElem?_eq_none (xs := T) hle, Array.getElem?_eq_none (by rw [Array.size_setIfInBounds, h.sz]; exact hle)]
      · show (a.tmps.setIfInBounds x v)[t]? = _
        rw [Array.getElem?_setIfInBounds, if_neg e]
        exact hold (by rw [hd]; simpa using e)
theorem Agree.next {a0 : Act} {T T' : Array Value} {d : Array Bool} {a : Act} (h : Agree ops a0 T d a) (hs : T'.size = T.size) {i : Nat} {o : Oper} (ho : ops[i]? = some o) (hf : d.getD i true = false) (hT : ∀ t, o.dst ≠ some t → T'[t]? = T[t]?) : Agree ops a0 T' d a := by
  refine ⟨h.df, by rw [h.sz, hs], fun t ht => ?_⟩
  rw [hT t fun e => ?_]
  · exact h.at_ t ht
  · have h1 := ht i o ho e
    rw [Array.getD_eq_getD_getElem?] at hf h1
    cases hq : d[i]? with
    | none => rw [hq] at hf; cases hf
    | some b => rw [hq] at hf h1; simp only [Option.getD_some] at hf h1; rw [hf] at h1; cases h1

/-- One operation under the ghost numbers β; J what is known of the world. -/
inductive OpOK (P : Program) (ops : Array Oper) (a0 : Act) (T : (Nat → Nat) → Array Value) (J : Array Bool → (Nat → Nat) → World → Prop) (i : Nat) (o : Oper) : Prop
  | quiet (h1 : ∀ (d : Array Bool) (β : Nat → Nat) (w : World), J d β w → o.quietAt P ⟨T β, a0.defers⟩ (J d β) w ((o.dst.bind ((T β)[·]?)).getD undef)) (h2 : ∀ (d : Array Bool) (β : Nat → Nat) (w : World), d.size = ops.size → J d β w → J (d.setIfInBounds i true) β w)
  | fresh (v : World → Value) (w' : World → World) (b : World → Nat) (x : Tmp) (hx : o.dst = some x) (hr : ∀ (β : Nat → Nat) (w : World), (execOp (⟨T β, a0.defers⟩ : Act).eval o).run P w = .ok (.value (v w)) (w' w))
      (hv : ∀ (β : Nat → Nat) (w : World), (T (fun k => if k = i then b w else β k))[x]? = some (v w)) (ht : ∀ (β : Nat → Nat) (b : Nat) (t : Tmp), x ≠ t → (T (fun k => if k = i then b else β k))[t]? = (T β)[t]?)
      (hJ : ∀ (d : Array Bool) (β : Nat → Nat) (w : World), d.size = ops.size → d.getD i true = false → J d β w → J (d.setIfInBounds i true) (fun k => if k = i then b w else β k) (w' w))
  | store (hx : o.dst = none) (hr : ∀ (d : Array Bool) (β : Nat → Nat) (w : World), d.size = ops.size → (∀ e ∈ o.after, Region.binds .any e = true → d.getD e.on false = true) → J d β w → ∃ u w', ((execOp (⟨T β, a0.defers⟩ : Act).eval o).run P w = .ok (.value u) w' ∨ (execOp (⟨T β, a0.defers⟩ : Act).eval o).run P w = .ok .skip w') ∧ J (d.setIfInBounds i true) β w')

end

end Go.Proofs.Ytlnlppmhiobgjaa
