/- Regions that draw their order, with calls that make and write memory: their operations. -/
import Derived.Test.YtlnlppmhiobgjaaJ1
set_option linter.unusedVariables false
set_option linter.unusedSimpArgs false
namespace Go.Proofs.Ytlnlppmhiobgjaa
open Go Go.RowKit
/-- Stage m is carried out by i: the ones ahead are done, those behind wait. -/
def stgS (ops : Array Oper) (fu i : Nat) : List Sg → Nat → Bool
  | [], _ => false
  | s :: l, 0 => Nat.beq s.i i && l.all fun s' => reachB ops fu s'.i i && !Nat.beq s'.i i
  | s :: l, m + 1 => reachB ops fu i s.i && !Nat.beq s.i i && stgS ops fu i l m
def alB (ops : Array Oper) (fu i : Nat) (b : TB) : Bool := neO b.al i && (match b.al with | none => true | some j => reachB ops fu i j)
def klB (ops : Array Oper) (fu i : Nat) (b : TB) : Bool := neO b.kl i && (match b.kl with | none => true | some j => reachB ops fu j i)
def newB (ops : Array Oper) (fu i : Nat) (b : TB) : Bool := (match b.al with | some j => Nat.beq j i | none => false) && klB ops fu i b && b.sts.all fun s => reachB ops fu s.i i && !Nat.beq s.i i
section
variable {ops : Array Oper} {d : Array Bool} {β : Nat → SlR} {i : Nat} {T : List TB} {L : List Blk} {X : List Nat} {w0 w w' : World} {fu : Nat} {o : Oper} {r : SlR} {b b1 : TB} {k k1 m : Nat} {s : Sg}
theorem ne_beq {a c : Nat} (h : (!Nat.beq a c) = true) : a ≠ c := Nat.ne_of_beq_eq_false (by simpa using h)
theorem contF_stop {l : List Sg} {c : Obj} (hcl : Closed ops d) (hf : d.getD i true = false) (h : (l.all fun s' => reachB ops fu s'.i i && !Nat.beq s'.i i) = true) : contF (d.setIfInBounds i true) (updS β i r) c l = c := by
  cases l with
  | nil => rfl
  | cons s l =>
    simp only [List.all_cons, Bool.and_eq_true] at h
    rw [contF, getD_off2 (ne_beq h.1.2), if_neg (by rw [reach_not hcl hf h.1.1]; simp)]
theorem contF_before (hcl : Closed ops d) (ho : ops[i]? = some o) (hf : d.getD i true = false) (hdep : ∀ e ∈ o.after, Region.binds .any e = true → d.getD e.on false = true) : ∀ {l : List Sg} {m : Nat} {c : Obj}, stgS ops fu i l m = true → contF d β c l = contM β c l m
  | [], m, c, h => by simp [stgS] at h
  | s :: l, 0, c, h => by
    simp only [stgS, Bool.and_eq_true] at h
    rw [contF, if_neg (by rw [Nat.eq_of_beq_eq_true h.1, getD_tf hf]; simp)]; rfl
  | s :: l, m + 1, c, h => by
    simp only [stgS, Bool.and_eq_true] at h
    rw [contF, if_pos (reach_dep hcl ho hdep h.1.1), contF_before hcl ho hf hdep h.2]; rfl
theorem contF_after (hcl : Closed ops d) (ho : ops[i]? = some o) (hf : d.getD i true = false) (hdep : ∀ e ∈ o.after, Region.binds .any e = true → d.getD e.on false = true) : ∀ {l : List Sg} {m : Nat} {c : Obj}, stgS ops fu i l m = true → l[m]? = some s → contF (d.setIfInBounds i true) (updS β i r) c l = s.Rb (updS β i r)
  | [], m, c, h, _ => by simp [stgS] at h
  | s' :: l, 0, c, h, hs => by
    simp only [List.getElem?_cons_zero, Option.some.injEq] at hs
    subst hs
    simp only [stgS, Bool.and_eq_true] at h
    have e := Nat.eq_of_beq_eq_true h.1
    rw [contF, e, getD_on hf, if_pos rfl]
    exact contF_stop hcl hf h.2
  | s' :: l, m + 1, c, h, hs => by
    simp only [stgS, Bool.and_eq_true] at h
    have hne := ne_beq h.1.2
    rw [contF, getD_off2 hne, if_pos (reach_dep hcl ho hdep h.1.1)]
    exact contF_after hcl ho hf hdep h.2 (by simpa using hs)
theorem born_at (hcl : Closed ops d) (ho : ops[i]? = some o) (hf : d.getD i true = false) (hdep : ∀ e ∈ o.after, Region.binds .any e = true → d.getD e.on false = true) (ha : alB ops fu i b = true) (hk : klB ops fu i b = true) : b.born d = true := by
  simp only [alB, klB, Bool.and_eq_true] at ha hk
  unfold TB.born
  have e1 : (match b.al with | none => true | some j => d.getD j false) = true := by
    cases hq : b.al with
    | none => rfl
    | some j => have := ha.2; rw [hq] at this; exact reach_dep hcl ho hdep this
  have e2 : (match b.kl with | none => true | some j => !d.getD j false) = true := by
    cases hq : b.kl with
    | none => rfl
    | some j => have := hk.2; rw [hq] at this; dsimp only; rw [reach_not hcl hf this]; rfl
  exact Bool.and_eq_true_iff.2 ⟨e1, e2⟩
theorem J2.stage (h : J2 X w0 T L d β w) (hD : ∀ b ∈ T, DepF d β i r b) (hcl : Closed ops d) (ho : ops[i]? = some o) (hf : d.getD i true = false) (hdep : ∀ e ∈ o.after, Region.binds .any e = true → d.getD e.on false = true)
    (hk : T[k]? = some b) (hrest : (T.eraseIdx k).all (freeB i) = true) (ha : alB ops fu i b = true) (hkl : klB ops fu i b = true) (hs : stgS ops fu i b.sts m = true) (hsm : b.sts[m]? = some s) (hq : s.qb (updS β i r))
    (k1 : Kept [b.adr β] w w') (h1 : w'.heap[b.adr β]? = some (s.Rb (updS β i r))) : J2 X w0 T L (d.setIfInBounds i true) (updS β i r) w' := by
  have hb := born_at hcl ho hf hdep ha hkl
  have hal : b.al ≠ some i := by simp only [alB, Bool.and_eq_true] at ha; exact neO_spec ha.1
  have hkl' : b.kl ≠ some i := by simp only [klB, Bool.and_eq_true] at hkl; exact neO_spec hkl.1
  have hb' : b.born (d.setIfInBounds i true) = true := by rw [TB.born_free hal hkl']; exact hb
  have hperm := perm_erase hk
  have hmem : b ∈ T := List.mem_of_getElem? hk
  refine h.q_next r hD (fun c hc hca => ?_) (fun c hc s' hs' hsi => ?_) ?_
  · rcases List.mem_cons.1 (hperm.mem_iff.1 hc) with rfl | hc
    · exact absurd hca hal
    · exact absurd hca (freeB_spec (List.all_eq_true.1 hrest c hc)).1
  · rcases List.mem_cons.1 (hperm.mem_iff.1 hc) with rfl | hc
    · have : ∀ {l : List Sg} {m : Nat}, stgS ops fu i l m = true → l[m]? = some s → ∀ s' ∈ l, s'.i = i → s' = s := by
        intro l
        induction l with
        | nil => intro m h; simp [stgS] at h
        | cons a l ih =>
          intro m h hm s' hs' hi
          cases m with
          | zero =>
            simp only [stgS, Bool.and_eq_true, List.all_eq_true] at h
            simp only [List.getElem?_cons_zero, Option.some.injEq] at hm
            rcases List.mem_cons.1 hs' with rfl | hs'
            · exact hm
            · exact absurd hi (ne_beq (h.2 s' hs').2)
          | succ m =>
            simp only [stgS, Bool.and_eq_true] at h
            rcases List.mem_cons.1 hs' with rfl | hs'
            · exact absurd hi (ne_beq h.1.2)
            · exact ih h.2 (by simpa using hm) s' hs' hi
      rw [this hs hsm s' hs' hsi]; exact hq
    · exact absurd hsi ((freeB_spec (List.all_eq_true.1 hrest c hc)).2.2 s' hs')
  · have H1 := h.hp.perm (Lof_perm hperm)
    rw [Lof_born hb] at H1
    have H2 := H1.put (k := 0) rfl k1 h1
    have hset : (b.blk d β :: Lof (T.eraseIdx k) L d β).set 0 ⟨true, b.adr β, s.Rb (updS β i r)⟩ = ⟨true, b.adr β, s.Rb (updS β i r)⟩ :: Lof (T.eraseIdx k) L d β := rfl
    rw [hset] at H2
    refine Hp.perm ?_ (Lof_perm hperm).symm
    rw [Lof_born hb', Lof_free hrest (fun c hc => hD c (hperm.mem_iff.2 (List.mem_cons_of_mem _ hc)))]
    have e : b.blk (d.setIfInBounds i true) (updS β i r) = ⟨true, b.adr β, s.Rb (updS β i r)⟩ := by
      unfold TB.blk
      rw [TB.adr_free hal, contF_after hcl ho hf hdep hs hsm]
    rw [e]
    exact H2
theorem new_spec (hcl : Closed ops d) (hf : d.getD i true = false) (h : newB ops fu i b = true) : b.al = some i ∧ b.born d = false ∧ b.born (d.setIfInBounds i true) = true ∧ b.blk (d.setIfInBounds i true) (updS β i r) = ⟨true, r.g, b.z0 (updS β i r)⟩ ∧ (∀ s ∈ b.sts, s.i ≠ i) ∧ b.kl ≠ some i := by
  simp only [newB, Bool.and_eq_true] at h
  obtain ⟨⟨h1, h2⟩, h3⟩ := h
  have hal : b.al = some i := by
    cases hq : b.al with
    | none => rw [hq] at h1; cases h1
    | some j => rw [hq] at h1; rw [Nat.eq_of_beq_eq_true h1]
  simp only [klB, Bool.and_eq_true] at h2
  refine ⟨hal, ?_, ?_, ?_, fun s hs => ne_beq (Bool.and_eq_true _ _ ▸ List.all_eq_true.1 h3 s hs).2, neO_spec h2.1⟩
  · unfold TB.born; rw [hal]; dsimp only; rw [getD_tf hf]; rfl
  · unfold TB.born; rw [hal]; dsimp only; rw [getD_on hf]
    cases hq : b.kl with
    | none => rfl
    | some j =>
      have h4 := h2.2
      rw [hq] at h4
      have h5 := neO_spec h2.1
      dsimp only
      rw [getD_off2 (by rintro rfl; exact h5 hq), reach_not hcl hf h4]; rfl
  · unfold TB.blk TB.adr
    rw [contF_stop hcl hf h3, hal]
    dsimp only
    rw [updS_at]
theorem J2.birth (h : J2 X w0 T L d β w) (hD : ∀ b ∈ T, DepF d β i r b) (hcl : Closed ops d) (hf : d.getD i true = false)
    (hk : T[k]? = some b) (hrest : (T.eraseIdx k).all (freeB i) = true) (hn : newB ops fu i b = true) (hq : b.qb (updS β i r))
    (hK : Kept [] w w') (hg : w.heap.size ≤ r.g) (h1 : w'.heap[r.g]? = some (b.z0 (updS β i r))) : J2 X w0 T L (d.setIfInBounds i true) (updS β i r) w' := by
  obtain ⟨n1, n2, n3, n4, n5, n6⟩ := new_spec (β := β) (r := r) hcl hf hn
  have hperm := perm_erase hk
  refine h.q_next r hD (fun c hc hca => ?_) (fun c hc s' hs' hsi => ?_) ?_
  · rcases List.mem_cons.1 (hperm.mem_iff.1 hc) with rfl | hc
    · exact hq
    · exact absurd hca (freeB_spec (List.all_eq_true.1 hrest c hc)).1
  · rcases List.mem_cons.1 (hperm.mem_iff.1 hc) with rfl | hc
    · exact absurd hsi (n5 s' hs')
    · exact absurd hsi ((freeB_spec (List.all_eq_true.1 hrest c hc)).2.2 s' hs')
  · have H1 := h.hp.perm (Lof_perm hperm)
    rw [Lof_gone n2] at H1
    refine Hp.perm ?_ (Lof_perm hperm).symm
    rw [Lof_born n3, Lof_free hrest (fun c hc => hD c (hperm.mem_iff.2 (List.mem_cons_of_mem _ hc))), n4]
    exact H1.fresh hK hg h1
/-- A block is made, another one written. -/
theorem J2.both (h : J2 X w0 T L d β w) (hD : ∀ b ∈ T, DepF d β i r b) (hcl : Closed ops d) (ho : ops[i]? = some o) (hf : d.getD i true = false) (hdep : ∀ e ∈ o.after, Region.binds .any e = true → d.getD e.on false = true)
    (hk1 : T[k1]? = some b1) (hk : (T.eraseIdx k1)[k]? = some b) (hrest : ((T.eraseIdx k1).eraseIdx k).all (freeB i) = true) (hn : newB ops fu i b1 = true) (hq1 : b1.qb (updS β i r)) (ha : alB ops fu i b = true) (hkl : klB ops fu i b = true) (hs : stgS ops fu i b.sts m = true) (hsm : b.sts[m]? = some s) (hq : s.qb (updS β i r))
    (hK : Kept [b.adr β] w w') (h1 : w'.heap[b.adr β]? = some (s.Rb (updS β i r))) (hg : w.heap.size ≤ r.g) (h2 : w'.heap[r.g]? = some (b1.z0 (updS β i r))) : J2 X w0 T L (d.setIfInBounds i true) (updS β i r) w' := by
  obtain ⟨n1, n2, n3, n4, n5, n6⟩ := new_spec (β := β) (r := r) hcl hf hn
  have hp1 := perm_erase hk1
  have hJ1 : J2 X w0 (T.eraseIdx k1) L d β w := by
    refine ⟨fun c hc => h.sz c (hp1.mem_iff.2 (List.mem_cons_of_mem _ hc)), ?_, fun c hc => h.q c (hp1.mem_iff.2 (List.mem_cons_of_mem _ hc)), fun c hc => h.qs c (hp1.mem_iff.2 (List.mem_cons_of_mem _ hc))⟩
    have := h.hp.perm (Lof_perm hp1)
    rwa [Lof_gone n2] at this
  have hD1 : ∀ c ∈ T.eraseIdx k1, DepF d β i r c := fun c hc => hD c (hp1.mem_iff.2 (List.mem_cons_of_mem _ hc))
  have hJ2 := hJ1.stage hD1 hcl ho hf hdep hk hrest ha hkl hs hsm hq hK h1
  refine h.q_next r hD (fun c hc hca => ?_) (fun c hc s' hs' hsi => ?_) ?_
  · rcases List.mem_cons.1 (hp1.mem_iff.1 hc) with rfl | hc
    · exact hq1
    · exact hJ2.q c hc (by unfold alD; rw [hca]; exact getD_on hf)
  · rcases List.mem_cons.1 (hp1.mem_iff.1 hc) with rfl | hc
    · exact absurd hsi (n5 s' hs')
    · exact hJ2.qs c hc s' hs' (by rw [hsi]; exact getD_on hf)
  · refine Hp.perm ?_ (Lof_perm hp1).symm
    rw [Lof_born n3, n4]
    have H := hJ2.hp
    refine ⟨H.kept, fun p hp => ?_, fun p hp ho => ?_, List.pairwise_cons.2 ⟨fun p hp => ?_, H.far⟩⟩
    · rcases List.mem_cons.1 hp with rfl | hp
      · exact h2
      · exact H.held p hp
    · rcases List.mem_cons.1 hp with rfl | hp
      · exact .inl (Nat.le_trans h.hp.kept.size hg)
      · exact H.own p hp ho
    · show r.g ≠ p.ad
      have hlt : p.ad < w.heap.size := by
        have hpp := perm_erase hk
        have hp2 := (Lof_perm hpp).mem_iff.1 hp
        have hal : b.al ≠ some i := by simp only [alB, Bool.and_eq_true] at ha; exact neO_spec ha.1
        have hkl' : b.kl ≠ some i := by simp only [klB, Bool.and_eq_true] at hkl; exact neO_spec hkl.1
        have hb := born_at hcl ho hf hdep ha hkl
        have H0 := hJ1.hp.perm (Lof_perm hpp)
        rw [Lof_born hb] at H0
        rw [Lof_born (by rw [TB.born_free hal hkl']; exact hb), Lof_free hrest (fun c hc => hD1 c (hpp.mem_iff.2 (List.mem_cons_of_mem _ hc)))] at hp2
        rcases List.mem_cons.1 hp2 with rfl | hp2
        · have := heap_in (H0.held _ (List.mem_cons_self ..))
          show (b.adr (updS β i r)) < _
          rw [TB.adr_free hal]
          exact this
        · exact heap_in (H0.held p (List.mem_cons_of_mem _ hp2))
      omega
/-- A block is let go, another one comes in its place. -/
theorem J2.turn (h : J2 X w0 T L d β w) (hD : ∀ b ∈ T, DepF d β i r b) (hcl : Closed ops d) (ho : ops[i]? = some o) (hf : d.getD i true = false) (hdep : ∀ e ∈ o.after, Region.binds .any e = true → d.getD e.on false = true)
    (hk1 : T[k1]? = some b1) (hk : (T.eraseIdx k1)[k]? = some b) (hrest : ((T.eraseIdx k1).eraseIdx k).all (freeB i) = true) (hn : newB ops fu i b1 = true) (hq1 : b1.qb (updS β i r)) (hkl : b.kl = some i) (ha : alB ops fu i b = true) (hss : (b.sts.all fun s => !Nat.beq s.i i) = true)
    (hc : (r.g = b.adr β ∧ Kept [b.adr β] w w') ∨ (w.heap.size ≤ r.g ∧ Kept [] w w')) (h2 : w'.heap[r.g]? = some (b1.z0 (updS β i r))) : J2 X w0 T L (d.setIfInBounds i true) (updS β i r) w' := by
  obtain ⟨n1, n2, n3, n4, n5, n6⟩ := new_spec (β := β) (r := r) hcl hf hn
  have hp1 := perm_erase hk1
  have hp2 := perm_erase hk
  have hperm := hp1.trans (hp2.cons b1)
  have hal : b.al ≠ some i := by simp only [alB, Bool.and_eq_true] at ha; exact neO_spec ha.1
  have hb : b.born d = true := by
    simp only [alB, Bool.and_eq_true] at ha
    unfold TB.born
    rw [hkl]
    have e1 : (match b.al with | none => true | some j => d.getD j false) = true := by
      cases hq : b.al with
      | none => rfl
      | some j => have := ha.2; rw [hq] at this; exact reach_dep hcl ho hdep this
    exact Bool.and_eq_true_iff.2 ⟨e1, by dsimp only; rw [getD_tf hf]; rfl⟩
  have hb' : b.born (d.setIfInBounds i true) = false := by
    unfold TB.born
    rw [hkl]
    dsimp only
    rw [getD_on hf]
    simp
  refine h.q_next r hD (fun c hc hca => ?_) (fun c hc s' hs' hsi => ?_) ?_
  · rcases List.mem_cons.1 (hperm.mem_iff.1 hc) with rfl | hc
    · exact hq1
    · rcases List.mem_cons.1 hc with rfl | hc
      · exact absurd hca hal
      · exact absurd hca (freeB_spec (List.all_eq_true.1 hrest c hc)).1
  · rcases List.mem_cons.1 (hperm.mem_iff.1 hc) with rfl | hc
    · exact absurd hsi (n5 s' hs')
    · rcases List.mem_cons.1 hc with rfl | hc
      · exact absurd hsi (ne_beq (List.all_eq_true.1 hss s' hs'))
      · exact absurd hsi ((freeB_spec (List.all_eq_true.1 hrest c hc)).2.2 s' hs')
  · have H1 := h.hp.perm (Lof_perm hperm)
    rw [Lof_gone n2, Lof_born hb] at H1
    refine Hp.perm ?_ (Lof_perm hperm).symm
    rw [Lof_born n3, n4, Lof_gone hb', Lof_free hrest (fun c hc => hD c (hperm.mem_iff.2 (List.mem_cons_of_mem _ (List.mem_cons_of_mem _ hc))))]
    rcases hc with ⟨e, hK⟩ | ⟨hg, hK⟩
    · have H2 := H1.put (k := 0) rfl hK (by rw [← e]; exact h2)
      have hset : (b.blk d β :: Lof ((T.eraseIdx k1).eraseIdx k) L d β).set 0 ⟨true, b.adr β, b1.z0 (updS β i r)⟩ = ⟨true, b.adr β, b1.z0 (updS β i r)⟩ :: Lof ((T.eraseIdx k1).eraseIdx k) L d β := rfl
      rw [hset] at H2
      rw [e]
      exact H2
    · exact (H1.weak (List.sublist_cons_self _ _)).fresh hK hg h2
end
/-- A slot that is written behind operation i. -/
def lateB (ops : Array Oper) (fu i t : Nat) : Bool := (List.range ops.size).any fun j => match ops[j]? with | some o => (match o.dst with | some u => Nat.beq u t | none => false) && reachB ops fu j i | none => false
def offAt2 (ops : Array Oper) (fu i x : Nat) : List (Nat × Value) → List (Nat × Value) → Prop
  | [], [] => True
  | p :: l, q :: m => p.1 = q.1 ∧ (p.1 = x ∨ lateB ops fu i p.1 = true ∨ p.2 = q.2) ∧ offAt2 ops fu i x l m
  | _, _ => False
def keepB (ops : Array Oper) (fu i x : Nat) (t : Nat) : Bool := !(Nat.beq t x || lateB ops fu i t)
theorem offAt2_of {ops : Array Oper} {fu i x : Nat} : ∀ {l m : List (Nat × Value)}, l.map (·.1) = m.map (·.1) → (l.filter fun p => keepB ops fu i x p.1) = (m.filter fun p => keepB ops fu i x p.1) → offAt2 ops fu i x l m
  | [], [], _, _ => trivial
  | (k, u) :: l, (j, v) :: m, h1, h2 => by
    simp only [List.map_cons, List.cons.injEq] at h1
    obtain ⟨rfl, h1⟩ := h1
    simp only [List.filter_cons] at h2
    cases hb : keepB ops fu i x k with
    | true =>
      rw [hb] at h2
      simp only [if_true, List.cons.injEq, Prod.mk.injEq] at h2
      exact ⟨rfl, .inr (.inr h2.1.2), offAt2_of h1 h2.2⟩
    | false =>
      rw [hb] at h2
      refine ⟨rfl, ?_, offAt2_of h1 (by simpa using h2)⟩
      unfold keepB at hb
      simp only [Bool.not_eq_false', Bool.or_eq_true] at hb
      rcases hb with hb | hb
      · exact .inl (Nat.eq_of_beq_eq_true hb)
      · exact .inr (.inl hb)
  | [], _ :: _, h, _ => by cases h
  | _ :: _, [], h, _ => by cases h
theorem lk_off2 {ops : Array Oper} {fu i x : Nat} {V : List (Nat × Value)} : ∀ {l m : List (Nat × Value)}, offAt2 ops fu i x l m → ∀ t, x ≠ t → lk (l ++ V) t = lk (m ++ V) t ∨ ∀ d, Closed ops d → d.getD i true = false → ∃ j oj, ops[j]? = some oj ∧ oj.dst = some t ∧ d.getD j false = false
  | [], [], _, t, _ => .inl rfl
  | p :: l, q :: m, h, t, hx => by
    obtain ⟨k, u⟩ := p
    obtain ⟨j, v⟩ := q
    obtain ⟨h1, h2, h3⟩ := h
    simp only at h1 h2
    subst h1
    simp only [List.cons_append, lk]
    cases hb : Nat.beq k t with
    | true =>
      have e := Nat.eq_of_beq_eq_true hb
      rcases h2 with h2 | h2 | h2
      · exact absurd (h2.symm.trans e) hx
      · refine .inr fun d hcl hf => ?_
        obtain ⟨j, hj, hr⟩ := List.any_eq_true.1 h2
        cases ho : ops[j]? with
        | none => rw [ho] at hr; cases hr
        | some o =>
          rw [ho] at hr
          simp only [Bool.and_eq_true] at hr
          refine ⟨j, o, ho, ?_, reach_not hcl hf hr.2⟩
          cases hd : o.dst with
          | none => rw [hd] at hr; cases hr.1
          | some y => rw [hd] at hr; rw [Nat.eq_of_beq_eq_true hr.1, e]
      · left; simp only [h2, cond_true]
    | false => exact lk_off2 h3 t hx
  | [], _ :: _, h, _, _ => h.elim
  | _ :: _, [], h, _, _ => h.elim
section
variable {P : Program} {ops : Array Oper} {W : (Nat → SlR) → List (Nat × Value)} {V : List (Nat × Value)} {i : Nat} {o : Oper} {X : List Nat} {w0 : World} {L : List Blk} {T : List TB} {exs : List (Nat × List Nat)}
theorem E_val (n : Nat) (hc0 : ∀ β, opB ops (rm (exAt exs i) (W β) ++ V) n o = true) (v : (Nat → SlR) → Value) (x : Nat) (hx : o.dst = some x) (hv : ∀ β, lk (W β ++ V) x = some (v β)) (fu : Nat) (rd : List (Nat × Nat)) (hck : (rdB ops T fu i rd && T.all (freeB i)) = true) (ho : ops[i]? = some o)
    (hr : ∀ β w, Kept X w0 w → HeldL (rdL T β rd ++ L) w → QF T β rd → (execOp (evV (rm (exAt exs i) (W β) ++ V)) o).run P w = .ok (.value (v β)) w) : StO2 P ops W V exs (J2 X w0 T L) i o := by
  simp only [Bool.and_eq_true] at hck
  refine .val (fun β => (opB_spec (hc0 β)).2.1) (fun β => (opB_spec (hc0 β)).1) v (fun β t ht => by rw [hx] at ht; cases ht; exact hv β) fun d β w hcl hf hdep hJ => ?_
  obtain ⟨h1, h2⟩ := hJ.reads hcl ho hf hdep hck.1
  exact ⟨hr β w hJ.hp.kept h1 h2, hJ.quiet hck.2 (Kept.refl _ _)⟩
theorem E_k (n : Nat) (v : (Nat → SlR) → Value) (x fu : Nat) (hc0 : ∀ β, opB ops (rm (exAt exs i) (W β) ++ V) n o = true := by intro β; as_aux_lemma => kernel_rfl) (hx : o.dst = some x := by rfl) (hv : ∀ β, lk (W β ++ V) x = some (v β) := by intro β; as_aux_lemma => kernel_rfl) (hck : (rdB ops T fu i [] && T.all (freeB i)) = true := by as_aux_lemma => kernel_rfl) (ho : ops[i]? = some o := by rfl)
    (hr : ∀ β w, (execOp (evV (rm (exAt exs i) (W β) ++ V)) o).run P w = .ok (.value (v β)) w := by intro β w; as_aux_lemma => kernel_rfl) : StO2 P ops W V exs (J2 X w0 T L) i o :=
  E_val n hc0 v x hx hv fu [] hck ho fun β w _ _ _ => hr β w
theorem E_v (n : Nat) (v : (Nat → SlR) → Value) (x fu : Nat) (rd : List (Nat × Nat)) (hr : ∀ β w, Kept X w0 w → HeldL (rdL T β rd ++ L) w → QF T β rd → (execOp (evV (rm (exAt exs i) (W β) ++ V)) o).run P w = .ok (.value (v β)) w) (hc0 : ∀ β, opB ops (rm (exAt exs i) (W β) ++ V) n o = true := by intro β; as_aux_lemma => kernel_rfl) (hx : o.dst = some x := by rfl) (hv : ∀ β, lk (W β ++ V) x = some (v β) := by intro β; as_aux_lemma => kernel_rfl) (hck : (rdB ops T fu i rd && T.all (freeB i)) = true := by as_aux_lemma => kernel_rfl) (ho : ops[i]? = some o := by rfl) : StO2 P ops W V exs (J2 X w0 T L) i o :=
  E_val n hc0 v x hx hv fu rd hck ho hr
theorem E_skip (hw : ∀ β, wants ops (rm (exAt exs i) (W β) ++ V) o = some false) (x : Nat) (hx : o.dst = some x) (hv : ∀ β, lk (W β ++ V) x = some undef) (hck : T.all (freeB i) = true) : StO2 P ops W V exs (J2 X w0 T L) i o :=
  .skip hw (fun β t ht => by rw [hx] at ht; cases ht; exact hv β) fun d β w hJ => hJ.quiet hck (Kept.refl _ _)
theorem E_call (n : Nat) (hc0 : ∀ β, opB ops (rm (exAt exs i) (W β) ++ V) n o = true) (v : (Nat → SlR) → Value) (x : Nat) (hx : o.dst = some x) (hv : ∀ β, lk (W β ++ V) x = some (v β)) (f : Nat) (args : (Nat → SlR) → Array Value) (hr : ∀ β w, (execOp (evV (rm (exAt exs i) (W β) ++ V)) o).run P w = .ok (.enter f (args β)) w) (fu : Nat) (rd : List (Nat × Nat)) (hck : (rdB ops T fu i rd && T.all (freeB i)) = true) (ho : ops[i]? = some o)
    (hc : ∀ β w, Kept X w0 w → HeldL (rdL T β rd ++ L) w → QF T β rd → Calls P f (args β) w fun e w' => e = .returned (v β) ∧ Kept [] w w') : StO2 P ops W V exs (J2 X w0 T L) i o := by
  simp only [Bool.and_eq_true] at hck
  refine .call (fun β => (opB_spec (hc0 β)).2.1) (fun β => (opB_spec (hc0 β)).1) v (fun β t ht => by rw [hx] at ht; cases ht; exact hv β) f args hr fun d β w hcl hf hdep hJ => ?_
  obtain ⟨h1, h2⟩ := hJ.reads hcl ho hf hdep hck.1
  exact (hc β w hJ.hp.kept h1 h2).mono fun e w' ⟨h3, h4⟩ => ⟨h3, hJ.quiet hck.2 h4⟩
theorem E_new (n : Nat) (hc0 : ∀ β, opB ops (rm (exAt exs i) (W β) ++ V) n o = true) (v : (Nat → SlR) → Value) (x : Nat) (hx : o.dst = some x) (hv : ∀ β, lk (W β ++ V) x = some (v β)) (lf : Nat) (ht : ∀ β r, offAt2 ops lf i x (W (updS β i r)) (W β)) (fu : Nat) (rd : List (Nat × Nat)) (k : Nat) (b : TB) (hk : T[k]? = some b) (hck : (rdB ops T fu i rd && (T.eraseIdx k).all (freeB i) && newB ops fu i b) = true) (hdk : T.all (dOK ops fu i) = true) (ho : ops[i]? = some o)
    (hr : ∀ β w, Kept X w0 w → HeldL (rdL T β rd ++ L) w → QF T β rd → ∃ r w', (execOp (evV (rm (exAt exs i) (W β) ++ V)) o).run P w = .ok (.value (v (updS β i r))) w' ∧ b.qb (updS β i r) ∧ w.heap.size ≤ r.g ∧ w'.heap[r.g]? = some (b.z0 (updS β i r)) ∧ Kept [] w w') : StO2 P ops W V exs (J2 X w0 T L) i o := by
  simp only [Bool.and_eq_true] at hck
  refine .fresh (fun β => (opB_spec (hc0 β)).2.1) (fun β => (opB_spec (hc0 β)).1) v (fun β r t ht => by rw [hx] at ht; cases ht; exact hv _) (fun β r t hne => lk_off2 (ht β r) t (fun e => hne (by rw [hx, e]))) fun d β w hcl hf hdep hJ => ?_
  obtain ⟨h1, h2⟩ := hJ.reads hcl ho hf hdep hck.1.1
  obtain ⟨r, w', h3, h4, h5, h6, h7⟩ := hr β w hJ.hp.kept h1 h2
  exact ⟨r, w', h3, hJ.birth (fun c hc => dOK_spec hcl hf (List.all_eq_true.1 hdk c hc)) hcl hf hk hck.1.2 hck.2 h4 h7 h5 h6⟩
theorem E_callS (n : Nat) (hc0 : ∀ β, opB ops (rm (exAt exs i) (W β) ++ V) n o = true) (v : (Nat → SlR) → Value) (x : Nat) (hx : o.dst = some x) (hv : ∀ β, lk (W β ++ V) x = some (v β)) (lf : Nat) (ht : ∀ β r, offAt2 ops lf i x (W (updS β i r)) (W β)) (f : Nat) (args : (Nat → SlR) → Array Value) (he : ∀ β w, (execOp (evV (rm (exAt exs i) (W β) ++ V)) o).run P w = .ok (.enter f (args β)) w) (fu : Nat) (rd : List (Nat × Nat)) (k : Nat) (b : TB) (hk : T[k]? = some b) (hck : (rdB ops T fu i rd && (T.eraseIdx k).all (freeB i) && newB ops fu i b) = true) (hdk : T.all (dOK ops fu i) = true) (ho : ops[i]? = some o)
    (hr : ∀ β w, Kept X w0 w → HeldL (rdL T β rd ++ L) w → QF T β rd → Calls P f (args β) w fun e w' => ∃ r, e = .returned (v (updS β i r)) ∧ b.qb (updS β i r) ∧ w.heap.size ≤ r.g ∧ w'.heap[r.g]? = some (b.z0 (updS β i r)) ∧ Kept [] w w') : StO2 P ops W V exs (J2 X w0 T L) i o := by
  simp only [Bool.and_eq_true] at hck
  refine .callX (fun β => (opB_spec (hc0 β)).2.1) (fun β => (opB_spec (hc0 β)).1) v (fun β r t ht => by rw [hx] at ht; cases ht; exact hv _) (fun β r t hne => lk_off2 (ht β r) t (fun e => hne (by rw [hx, e]))) f args he fun d β w hcl hf hdep hJ => ?_
  obtain ⟨h1, h2⟩ := hJ.reads hcl ho hf hdep hck.1.1
  exact (hr β w hJ.hp.kept h1 h2).mono fun e w' ⟨r, h3, h4, h5, h6, h7⟩ => ⟨r, h3, hJ.birth (fun c hc => dOK_spec hcl hf (List.all_eq_true.1 hdk c hc)) hcl hf hk hck.1.2 hck.2 h4 h7 h5 h6⟩
theorem E_callP (n : Nat) (hc0 : ∀ β, opB ops (rm (exAt exs i) (W β) ++ V) n o = true) (v : (Nat → SlR) → Value) (x : Nat) (hx : o.dst = some x) (hv : ∀ β, lk (W β ++ V) x = some (v β)) (lf : Nat) (ht : ∀ β r, offAt2 ops lf i x (W (updS β i r)) (W β)) (f : Nat) (args : (Nat → SlR) → Array Value) (he : ∀ β w, (execOp (evV (rm (exAt exs i) (W β) ++ V)) o).run P w = .ok (.enter f (args β)) w) (fu : Nat) (rd : List (Nat × Nat)) (k m : Nat) (b : TB) (s : Sg) (hk : T[k]? = some b) (hs : b.sts[m]? = some s) (hck : (rdB ops T fu i rd && (T.eraseIdx k).all (freeB i) && alB ops fu i b && klB ops fu i b && stgS ops fu i b.sts m) = true) (hdk : T.all (dOK ops fu i) = true) (ho : ops[i]? = some o)
    (hr : ∀ β w, Kept X w0 w → HeldL (rdL T β rd ++ L) w → QF T β rd → w.heap[b.adr β]? = some (contM β (b.z0 β) b.sts m) → Calls P f (args β) w fun e w' => ∃ r, e = .returned (v (updS β i r)) ∧ s.qb (updS β i r) ∧ Kept [b.adr β] w w' ∧ w'.heap[b.adr β]? = some (s.Rb (updS β i r))) : StO2 P ops W V exs (J2 X w0 T L) i o := by
  simp only [Bool.and_eq_true] at hck
  obtain ⟨⟨⟨⟨c1, c2⟩, c3⟩, c4⟩, c5⟩ := hck
  refine .callX (fun β => (opB_spec (hc0 β)).2.1) (fun β => (opB_spec (hc0 β)).1) v (fun β r t ht => by rw [hx] at ht; cases ht; exact hv _) (fun β r t hne => lk_off2 (ht β r) t (fun e => hne (by rw [hx, e]))) f args he fun d β w hcl hf hdep hJ => ?_
  obtain ⟨h1, h2⟩ := hJ.reads hcl ho hf hdep c1
  have hown : w.heap[b.adr β]? = some (contM β (b.z0 β) b.sts m) := by
    have H := hJ.hp.perm (Lof_perm (perm_erase hk))
    rw [Lof_born (born_at hcl ho hf hdep c3 c4)] at H
    have := H.held _ (List.mem_cons_self ..)
    unfold TB.blk at this
    rw [contF_before hcl ho hf hdep c5] at this
    exact this
  exact (hr β w hJ.hp.kept h1 h2 hown).mono fun e w' ⟨r, h3, h4, h5, h6⟩ => ⟨r, h3, hJ.stage (fun c hc => dOK_spec hcl hf (List.all_eq_true.1 hdk c hc)) hcl ho hf hdep hk c2 c3 c4 c5 hs h4 h5 h6⟩
theorem E_callSP (n : Nat) (hc0 : ∀ β, opB ops (rm (exAt exs i) (W β) ++ V) n o = true) (v : (Nat → SlR) → Value) (x : Nat) (hx : o.dst = some x) (hv : ∀ β, lk (W β ++ V) x = some (v β)) (lf : Nat) (ht : ∀ β r, offAt2 ops lf i x (W (updS β i r)) (W β)) (f : Nat) (args : (Nat → SlR) → Array Value) (he : ∀ β w, (execOp (evV (rm (exAt exs i) (W β) ++ V)) o).run P w = .ok (.enter f (args β)) w) (fu : Nat) (rd : List (Nat × Nat)) (k1 k m : Nat) (b1 b : TB) (s : Sg) (hk1 : T[k1]? = some b1) (hk : (T.eraseIdx k1)[k]? = some b) (hs : b.sts[m]? = some s) (hck : (rdB ops T fu i rd && ((T.eraseIdx k1).eraseIdx k).all (freeB i) && newB ops fu i b1 && alB ops fu i b && klB ops fu i b && stgS ops fu i b.sts m) = true) (hdk : T.all (dOK ops fu i) = true) (ho : ops[i]? = some o)
    (hr : ∀ β w, Kept X w0 w → HeldL (rdL T β rd ++ L) w → QF T β rd → w.heap[b.adr β]? = some (contM β (b.z0 β) b.sts m) → Calls P f (args β) w fun e w' => ∃ r, e = .returned (v (updS β i r)) ∧ s.qb (updS β i r) ∧ b1.qb (updS β i r) ∧ w.heap.size ≤ r.g ∧ w'.heap[r.g]? = some (b1.z0 (updS β i r)) ∧ Kept [b.adr β] w w' ∧ w'.heap[b.adr β]? = some (s.Rb (updS β i r))) : StO2 P ops W V exs (J2 X w0 T L) i o := by
  simp only [Bool.and_eq_true] at hck
  obtain ⟨⟨⟨⟨⟨c1, c2⟩, c0⟩, c3⟩, c4⟩, c5⟩ := hck
  refine .callX (fun β => (opB_spec (hc0 β)).2.1) (fun β => (opB_spec (hc0 β)).1) v (fun β r t ht => by rw [hx] at ht; cases ht; exact hv _) (fun β r t hne => lk_off2 (ht β r) t (fun e => hne (by rw [hx, e]))) f args he fun d β w hcl hf hdep hJ => ?_
  obtain ⟨h1, h2⟩ := hJ.reads hcl ho hf hdep c1
  have hown : w.heap[b.adr β]? = some (contM β (b.z0 β) b.sts m) := by
    have hm : b ∈ T := (perm_erase hk1).mem_iff.2 (List.mem_cons_of_mem _ (List.mem_of_getElem? hk))
    have hmem : b.blk d β ∈ Lof T L d β := List.mem_append_left _ (List.mem_map_of_mem (List.mem_filter.2 ⟨hm, born_at hcl ho hf hdep c3 c4⟩))
    have := hJ.hp.held _ hmem
    unfold TB.blk at this
    rw [contF_before hcl ho hf hdep c5] at this
    exact this
  exact (hr β w hJ.hp.kept h1 h2 hown).mono fun e w' ⟨r, h3, h4, h5, h6, h7, h8, h9⟩ => ⟨r, h3, hJ.both (fun c hc => dOK_spec hcl hf (List.all_eq_true.1 hdk c hc)) hcl ho hf hdep hk1 hk c2 c0 h5 c3 c4 c5 hs h4 h8 h9 h6 h7⟩
theorem E_store (n : Nat) (hc0 : ∀ β, opB ops (rm (exAt exs i) (W β) ++ V) n o = true) (hx : o.dst = none) (fu : Nat) (rd : List (Nat × Nat)) (k m : Nat) (b : TB) (s : Sg) (hk : T[k]? = some b) (hs : b.sts[m]? = some s) (hck : (rdB ops T fu i rd && (T.eraseIdx k).all (freeB i) && alB ops fu i b && klB ops fu i b && stgS ops fu i b.sts m) = true) (ho : ops[i]? = some o) (hq : ∀ β, s.qb β)
    (hr : ∀ β w, Kept X w0 w → HeldL (rdL T β rd ++ L) w → QF T β rd → w.heap[b.adr β]? = some (contM β (b.z0 β) b.sts m) → ∃ w', (execOp (evV (rm (exAt exs i) (W β) ++ V)) o).run P w = .ok .skip w' ∧ Kept [b.adr β] w w' ∧ w'.heap[b.adr β]? = some (s.Rb β)) : StO2 P ops W V exs (J2 X w0 T L) i o := by
  simp only [Bool.and_eq_true] at hck
  obtain ⟨⟨⟨⟨c1, c2⟩, c3⟩, c4⟩, c5⟩ := hck
  refine .store (fun β => (opB_spec (hc0 β)).2.1) (fun β => (opB_spec (hc0 β)).1) hx fun d β w hcl hf hdep hJ => ?_
  obtain ⟨h1, h2⟩ := hJ.reads hcl ho hf hdep c1
  have hown : w.heap[b.adr β]? = some (contM β (b.z0 β) b.sts m) := by
    have H := hJ.hp.perm (Lof_perm (perm_erase hk))
    rw [Lof_born (born_at hcl ho hf hdep c3 c4)] at H
    have := H.held _ (List.mem_cons_self ..)
    unfold TB.blk at this
    rw [contF_before hcl ho hf hdep c5] at this
    exact this
  obtain ⟨w', h3, h4, h5⟩ := hr β w hJ.hp.kept h1 h2 hown
  refine ⟨w', h3, ?_⟩
  have := hJ.stage (r := β i) (fun b _ => ⟨fun _ => by rw [updS_self], fun _ _ _ => by rw [updS_self]⟩) hcl ho hf hdep hk c2 c3 c4 c5 hs (hq _) h4 (by rw [updS_self]; exact h5)
  rwa [updS_self] at this
/-- A write that tells a value. -/
theorem E_put (n : Nat) (hc0 : ∀ β, opB ops (rm (exAt exs i) (W β) ++ V) n o = true) (v : (Nat → SlR) → Value) (x : Nat) (hx : o.dst = some x) (hv : ∀ β, lk (W β ++ V) x = some (v β)) (lf : Nat) (ht : ∀ β r, offAt2 ops lf i x (W (updS β i r)) (W β)) (fu : Nat) (rd : List (Nat × Nat)) (k m : Nat) (b : TB) (s : Sg) (hk : T[k]? = some b) (hs : b.sts[m]? = some s) (hck : (rdB ops T fu i rd && (T.eraseIdx k).all (freeB i) && alB ops fu i b && klB ops fu i b && stgS ops fu i b.sts m) = true) (hdk : T.all (dOK ops fu i) = true) (ho : ops[i]? = some o)
    (hr : ∀ β w, Kept X w0 w → HeldL (rdL T β rd ++ L) w → QF T β rd → w.heap[b.adr β]? = some (contM β (b.z0 β) b.sts m) → ∃ r w', (execOp (evV (rm (exAt exs i) (W β) ++ V)) o).run P w = .ok (.value (v (updS β i r))) w' ∧ s.qb (updS β i r) ∧ Kept [b.adr β] w w' ∧ w'.heap[b.adr β]? = some (s.Rb (updS β i r))) : StO2 P ops W V exs (J2 X w0 T L) i o := by
  simp only [Bool.and_eq_true] at hck
  obtain ⟨⟨⟨⟨c1, c2⟩, c3⟩, c4⟩, c5⟩ := hck
  refine .fresh (fun β => (opB_spec (hc0 β)).2.1) (fun β => (opB_spec (hc0 β)).1) v (fun β r t ht => by rw [hx] at ht; cases ht; exact hv _) (fun β r t hne => lk_off2 (ht β r) t (fun e => hne (by rw [hx, e]))) fun d β w hcl hf hdep hJ => ?_
  obtain ⟨h1, h2⟩ := hJ.reads hcl ho hf hdep c1
  have hown : w.heap[b.adr β]? = some (contM β (b.z0 β) b.sts m) := by
    have H := hJ.hp.perm (Lof_perm (perm_erase hk))
    rw [Lof_born (born_at hcl ho hf hdep c3 c4)] at H
    have := H.held _ (List.mem_cons_self ..)
    unfold TB.blk at this
    rw [contF_before hcl ho hf hdep c5] at this
    exact this
  obtain ⟨r, w', h3, h4, h5, h6⟩ := hr β w hJ.hp.kept h1 h2 hown
  exact ⟨r, w', h3, hJ.stage (fun c hc => dOK_spec hcl hf (List.all_eq_true.1 hdk c hc)) hcl ho hf hdep hk c2 c3 c4 c5 hs h4 h5 h6⟩
/-- A slice that grows. -/
theorem E_app (n : Nat) (hc0 : ∀ β, opB ops (rm (exAt exs i) (W β) ++ V) n o = true) (v : (Nat → SlR) → Value) (x : Nat) (hx : o.dst = some x) (hv : ∀ β, lk (W β ++ V) x = some (v β)) (lf : Nat) (ht : ∀ β r, offAt2 ops lf i x (W (updS β i r)) (W β)) (fu : Nat) (rd : List (Nat × Nat)) (k1 k : Nat) (b1 b : TB) (hk1 : T[k1]? = some b1) (hk : (T.eraseIdx k1)[k]? = some b) (hck : (rdB ops T fu i rd && ((T.eraseIdx k1).eraseIdx k).all (freeB i) && newB ops fu i b1 && alB ops fu i b && (match b.kl with | some j => Nat.beq j i | none => false) && (b.sts.all fun s => !Nat.beq s.i i)) = true) (hdk : T.all (dOK ops fu i) = true) (ho : ops[i]? = some o)
    (hsts : b.sts = [])
    (hr : ∀ β w, Kept X w0 w → HeldL (rdL T β rd ++ L) w → QF T β rd → w.heap[b.adr β]? = some (b.z0 β) → ∃ r w', (execOp (evV (rm (exAt exs i) (W β) ++ V)) o).run P w = .ok (.value (v (updS β i r))) w' ∧ b1.qb (updS β i r) ∧ w'.heap[r.g]? = some (b1.z0 (updS β i r)) ∧ ((r.g = b.adr β ∧ Kept [b.adr β] w w') ∨ (w.heap.size ≤ r.g ∧ Kept [] w w'))) : StO2 P ops W V exs (J2 X w0 T L) i o := by
  simp only [Bool.and_eq_true] at hck
  obtain ⟨⟨⟨⟨⟨c1, c2⟩, c3⟩, c4⟩, c5⟩, c6⟩ := hck
  have hkl : b.kl = some i := by
    cases hq : b.kl with
    | none => rw [hq] at c5; cases c5
    | some j => rw [hq] at c5; rw [Nat.eq_of_beq_eq_true c5]
  refine .fresh (fun β => (opB_spec (hc0 β)).2.1) (fun β => (opB_spec (hc0 β)).1) v (fun β r t ht => by rw [hx] at ht; cases ht; exact hv _) (fun β r t hne => lk_off2 (ht β r) t (fun e => hne (by rw [hx, e]))) fun d β w hcl hf hdep hJ => ?_
  obtain ⟨h1, h2⟩ := hJ.reads hcl ho hf hdep c1
  have hown : w.heap[b.adr β]? = some (b.z0 β) := by
    have hm : b ∈ T := (perm_erase hk1).mem_iff.2 (List.mem_cons_of_mem _ (List.mem_of_getElem? hk))
    have hb : b.born d = true := by
      simp only [alB, Bool.and_eq_true] at c4
      unfold TB.born
      rw [hkl]
      have e1 : (match b.al with | none => true | some j => d.getD j false) = true := by
        cases hq : b.al with
        | none => rfl
        | some j => have := c4.2; rw [hq] at this; exact reach_dep hcl ho hdep this
      exact Bool.and_eq_true_iff.2 ⟨e1, by dsimp only; rw [getD_tf hf]; rfl⟩
    have hmem : b.blk d β ∈ Lof T L d β := List.mem_append_left _ (List.mem_map_of_mem (List.mem_filter.2 ⟨hm, hb⟩))
    have := hJ.hp.held _ hmem
    unfold TB.blk at this
    rw [hsts] at this
    exact this
  obtain ⟨r, w', h3, h4, h5, h6⟩ := hr β w hJ.hp.kept h1 h2 hown
  exact ⟨r, w', h3, hJ.turn (fun c hc => dOK_spec hcl hf (List.all_eq_true.1 hdk c hc)) hcl ho hf hdep hk1 hk c2 c3 h4 hkl c4 c6 h6 h5⟩
end
def AllS2 (P : Program) (ops : Array Oper) (W : (Nat → SlR) → List (Nat × Value)) (V : List (Nat × Value)) (exs : List (Nat × List Nat)) (J : Array Bool → (Nat → SlR) → World → Prop) : Nat → List Oper → Prop
  | _, [] => True
  | k, o :: l => StO2 P ops W V exs J k o ∧ AllS2 P ops W V exs J (k + 1) l
theorem AllS2.at_ {P : Program} {ops : Array Oper} {W : (Nat → SlR) → List (Nat × Value)} {V : List (Nat × Value)} {exs : List (Nat × List Nat)} {J : Array Bool → (Nat → SlR) → World → Prop} : ∀ {l : List Oper} {k : Nat}, AllS2 P ops W V exs J k l → ∀ i o, l[i]? = some o → StO2 P ops W V exs J (k + i) o
  | [], _, _, i, o, h => by simp at h
  | o' :: l, k, hA, 0, o, h => by
    simp only [List.getElem?_cons_zero, Option.some.injEq] at h
    subst h; exact hA.1
  | o' :: l, k, hA, i + 1, o, h => by
    simp only [List.getElem?_cons_succ] at h
    have := AllS2.at_ hA.2 i o h
    rwa [Nat.add_assoc, Nat.add_comm 1 i] at this
def oldL (T : List TB) : List Blk := (T.filter (fun b => b.al.isNone)).map fun b => ⟨true, b.ad, b.Z (b.dep.map fun _ => r0)⟩
def endL (T : List TB) (β : Nat → SlR) : List Blk := (T.filter (fun b => b.kl.isNone)).map fun b => b.blkM β b.sts.length
def endQ (β : Nat → SlR) : List TB → Prop
  | [] => True
  | b :: T => b.qb β ∧ qst β b.sts b.sts.length ∧ endQ β T
def oldQ : List TB → Prop
  | [] => True
  | b :: T => (b.al.isNone = true → ∀ β, b.qb β) ∧ oldQ T
theorem oldQ_spec : ∀ {T : List TB}, oldQ T → ∀ b ∈ T, b.al.isNone = true → ∀ β, b.qb β
  | c :: T, h, b, hb, hn => by
    rcases List.mem_cons.1 hb with rfl | hb
    · exact h.1 hn
    · exact oldQ_spec h.2 b hb hn
theorem contF_all {d : Array Bool} {β : Nat → SlR} : ∀ {l : List Sg} {c : Obj}, (∀ s ∈ l, d.getD s.i false = true) → contF d β c l = contM β c l l.length
  | [], _, _ => rfl
  | s :: l, c, h => by
    rw [contF, if_pos (h s (List.mem_cons_self ..)), contF_all fun s hs => h s (List.mem_cons_of_mem _ hs)]; rfl
theorem qst_all {β : Nat → SlR} : ∀ {l : List Sg}, (∀ s ∈ l, s.qb β) → qst β l l.length
  | [], _ => trivial
  | s :: l, h => ⟨h s (List.mem_cons_self ..), qst_all fun s hs => h s (List.mem_cons_of_mem _ hs)⟩
theorem contF_none {d : Array Bool} {β : Nat → SlR} (z : ∀ j, d.getD j false = false) : ∀ {l : List Sg} {c : Obj}, contF d β c l = c
  | [], _ => rfl
  | s :: l, c => by rw [contF, z, if_neg (by simp)]
theorem E_regionA {P : Program} {lops : List Oper} {a : Act} {w w0 : World} {Q : Exit → Act → World → Prop} {n : Nat} {ds : List Deferred} {V : List (Nat × Value)} {X : List Nat} {L0 : List Blk} (Fa : Fm n ds V a) (H0 : Hp X w0 L0 w) (W : (Nat → SlR) → List (Nat × Value)) (slots : List Nat) (T : List TB) (L : List Blk) (ks : List Nat) (fu : Nat) (exs : List (Nat × List Nat))
    (hck : (nodupB ks && edgesDown lops.toArray && opsFedX lops.toArray fu exs && opsOnce lops.toArray && (slots.all fun x => Nat.blt x n && lops.toArray.any fun o => o.dst == some x) && nodupB slots && T.all (fun b => b.sts.all (fun s => Nat.blt s.i lops.toArray.size) && (match b.al with | none => true | some j => Nat.blt j lops.toArray.size) && (match b.kl with | none => true | some j => Nat.blt j lops.toArray.size))) = true)
    (hL : ks.filterMap (fun k => L0[k]?) = oldL T ++ L) (hslots : ∀ β, keys (W β) = slots) (hq0' : oldQ T)
    (hop : AllS2 P lops.toArray W V exs (J2 X w0 T L) 0 lops)
    (he : ∀ β a w, endQ β T → Fm n ds (W β ++ V) a → Hp X w0 (endL T β ++ L) w → Q .normal a w) : wpAny P .any lops.toArray Q lops.toArray.size (Array.replicate lops.toArray.size false) a { w with drawn := w.drawn + 1 } := by
  have hq0 := oldQ_spec hq0'
  simp only [Bool.and_eq_true] at hck
  obtain ⟨⟨⟨⟨⟨⟨c1, c2⟩, c3⟩, c4⟩, c5⟩, c6⟩, c7⟩ := hck
  have H := H0.pick ks c1 _ hL
  simp only [List.all_eq_true, Bool.and_eq_true] at c7
  have z : ∀ (m : Nat) j, (Array.replicate m false).getD j false = false := fun m j => by
    rw [Array.getD_eq_getD_getElem?, Array.getElem?_replicate]; split <;> rfl
  have hin : ∀ b ∈ T, (∀ s ∈ b.sts, s.i < lops.toArray.size) ∧ (∀ j, b.al = some j → j < lops.toArray.size) ∧ (∀ j, b.kl = some j → j < lops.toArray.size) := fun b hb => by
    obtain ⟨⟨h1, h2⟩, h3⟩ := c7 b hb
    refine ⟨fun s hs => by simpa using h1 s hs, fun j hj => ?_, fun j hj => ?_⟩
    · rw [hj] at h2; simpa using h2
    · rw [hj] at h3; simpa using h3
  refine wpAny_v2 Fa W slots (J2 X w0 T L) (fun _ => r0) c2 fu exs c3 c4 hslots c5 c6 ⟨fun b hb s hs => by rw [Array.size_replicate]; exact (hin b hb).1 s hs, ?_, fun b hb hd => ?_, fun b hb s hs hd => ?_⟩ (fun i o ho => ?_) (fun d β a w' hall hJ FF => ?_)
  · have e : Lof T L (Array.replicate lops.toArray.size false) (fun _ => r0) = oldL T ++ L := by
      unfold Lof oldL
      congr 1
      have hf : T.filter (TB.born (Array.replicate lops.toArray.size false)) = T.filter (fun b => b.al.isNone) := List.filter_congr fun b hb => by
        unfold TB.born
        cases b.al with
        | none =>
          cases b.kl with
          | none => rfl
          | some j => dsimp only; rw [z]; rfl
        | some j => dsimp only; rw [z]; rfl
      rw [hf]
      refine List.map_congr_left fun b hb => ?_
      obtain ⟨hb1, hb2⟩ := List.mem_filter.1 hb
      unfold TB.blk TB.adr TB.z0
      rw [contF_none (z _)]
      cases hq : b.al with
      | none => rfl
      | some j => rw [hq] at hb2; cases hb2
    rw [e]
    exact H.call (Kept.drew w)
  · exact hq0 b hb (by unfold alD at hd; cases hq : b.al with | none => rfl | some j => rw [hq] at hd; dsimp only at hd; rw [z] at hd; cases hd) _
  · rw [z] at hd; cases hd
  · have := hop.at_ i o (by simpa using ho)
    rwa [Nat.zero_add] at this
  · refine he β a w' ?_ FF ?_
    · have hq := hJ.q
      have hqs := hJ.qs
      have hin' := hin
      clear hop hL he
      have key : ∀ U : List TB, (∀ b ∈ U, b ∈ T) → endQ β U := by
        intro U
        induction U with
        | nil => intro _; trivial
        | cons b U ih =>
          intro hU
          have hb := hU b (List.mem_cons_self ..)
          refine ⟨hq b hb ?_, qst_all fun s hs => hqs b hb s hs (hall _ ((hin' b hb).1 s hs)), ih fun c hc => hU c (List.mem_cons_of_mem _ hc)⟩
          unfold alD
          cases hal : b.al with
          | none => rfl
          | some j => exact hall _ ((hin' b hb).2.1 j hal)
      exact key T fun _ h => h
    · have e : Lof T L d β = endL T β ++ L := by
        unfold Lof endL
        congr 1
        have hf : T.filter (TB.born d) = T.filter (fun b => b.kl.isNone) := List.filter_congr fun b hb => by
          have h1 := (hin b hb).2.1
          have h2 := (hin b hb).2.2
          unfold TB.born
          have e1 : (match b.al with | none => true | some i => d.getD i false) = true := by
            cases hq : b.al with
            | none => rfl
            | some j => exact hall _ (h1 j hq)
          cases hq : b.kl with
          | none => exact Bool.and_eq_true_iff.2 ⟨e1, rfl⟩
          | some j => dsimp only; rw [hall _ (h2 j hq), Bool.not_true, Bool.and_false]; rfl
        rw [hf]
        refine List.map_congr_left fun b hb => ?_
        unfold TB.blk TB.blkM
        rw [contF_all fun s hs => hall _ ((hin b (List.mem_filter.1 hb).1).1 s hs)]
      rw [← e]
      exact hJ.hp
theorem E_region {P : Program} {id : Nat} {lops : List Oper} {a : Act} {w w0 : World} {Q : Exit → Act → World → Prop} {n : Nat} {ds : List Deferred} {V : List (Nat × Value)} {X : List Nat} {L0 : List Blk} (Fa : Fm n ds V a) (H0 : Hp X w0 L0 w) (W : (Nat → SlR) → List (Nat × Value)) (slots : List Nat) (T : List TB) (L : List Blk) (ks : List Nat) (fu : Nat) (exs : List (Nat × List Nat))
    (hm : P.follows .mixedOrders = true) (hck : (nodupB ks && edgesDown lops.toArray && opsFedX lops.toArray fu exs && opsOnce lops.toArray && (slots.all fun x => Nat.blt x n && lops.toArray.any fun o => o.dst == some x) && nodupB slots && T.all (fun b => b.sts.all (fun s => Nat.blt s.i lops.toArray.size) && (match b.al with | none => true | some j => Nat.blt j lops.toArray.size) && (match b.kl with | none => true | some j => Nat.blt j lops.toArray.size))) = true)
    (hL : ks.filterMap (fun k => L0[k]?) = oldL T ++ L) (hslots : ∀ β, keys (W β) = slots) (hq0' : oldQ T)
    (hop : AllS2 P lops.toArray W V exs (J2 X w0 T L) 0 lops)
    (he : ∀ β a w, endQ β T → Fm n ds (W β ++ V) a → Hp X w0 (endL T β ++ L) w → Q .normal a w) : (Code.region id lops.toArray true).wp P Q a w :=
  wp_region_any hm (E_regionA Fa H0 W slots T L ks fu exs hck hL hslots hq0' hop he)
end Go.Proofs.Ytlnlppmhiobgjaa
